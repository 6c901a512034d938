/- Parts Ra Rb Rd Rg Rh Ri Rj Rk Rn of the proof. -/
import Derived.Test.YtkjplpmogfmhkaaGreatDoorHaw
namespace Go.Proofs.YtkjplpmogfmhkaaGreatDoor
open Go.RowKit
set_option linter.unusedVariables false
set_option maxRecDepth 100000
structure RV where
 st:List UInt8
 num:Int
 day:Int
 nxt:Int
 ser:List Int
 iss:Int
 e:Int
 s:Int
def tZ:List Int->Bool
 | a::b::l=>decide (a<b) && tZ (b::l)
 | _=>true
theorem oH:∀ {l:List Int},tZ l=true ↔ ∀ (j:Nat) (x y:Int),l[j]?=some x->l[j+1]?=some y->x<y
 | []=>⟨fun _ j x y h=>by simp at h,fun _=>rfl⟩
 | [a]=>⟨fun _ j x y h h2=>by simp at h2,fun _=>rfl⟩
 | a::b::l=>by
   show (decide (a<b) && tZ (b::l))=true ↔ _
   rw [Bool.and_eq_true,oH,decide_eq_true_eq]
   constructor
   · rintro ⟨h1,h2⟩ j x y hx hy
     cases j with
     | zero=>simp at hx hy;omega
     | succ j=>exact h2 j x y (by simpa using hx) (by simpa using hy)
   · exact fun h=>⟨h 0 a b rfl rfl,fun j x y hx hy=>h (j+1) x y (by simpa using hx) (by simpa using hy)⟩
def ckR (r:RV):Int :=
 if ¬ cC r.st then 60 else if ¬ (eH r.num/\eH r.iss) then 3 else if ¬ (0<=r.day/\r.day<=r.nxt/\r.nxt<=73048) then 8
 else if 64<r.ser.length then 72 else if (r.ser.any fun n=>!decide (eH n))=true then 3 else if tZ r.ser=true then 0 else 17
theorem sI (l:List UInt8) (w:World) (hl:l.length<=maxLen):Calls Tryz.prog 136 #[.string (aK l)] w fun e w'=>e=.returned (.bool (decide (cC l)))/\w=w' :=
 zB (aK l) w (by show l.toArray.size<=_;simpa using hl)
theorem kB (l:List UInt8) (w:World) (hl:l.length<=maxLen):Calls Tryz.prog 140 #[.string (aK l)] w fun e w'=>e=.returned (.bool (decide (cC l)))/\w=w' :=
 qJ (aK l) w (by show l.toArray.size<=_;simpa using hl)
def bM (w:World) (g:Nat) (r:RV) (v:Value):Prop:=w.heap[g]?=some (.cells #[.string (aK r.st),.int .i64 r.num,.int .i64 r.day,.int .i64 r.nxt,v,.int .i64 r.iss,.int .i64 r.e,.int .i64 r.s] 103 (0,0))
def bI (r:RV) (v:Value):Array Value:=#[.string (aK r.st),.int .i64 r.num,.int .i64 r.day,.int .i64 r.nxt,v,.int .i64 r.iss,.int .i64 r.e,.int .i64 r.s]
def rvV (r:RV) (v:Value):Value:=.agg #[.string (aK r.st),.int .i64 r.num,.int .i64 r.day,.int .i64 r.nxt,v,.int .i64 r.iss,.int .i64 r.e,.int .i64 r.s]
theorem bA:(Tryz.prog.info? 103).map (·.size)=some 8:=by kernel_rfl
section
variable {w w':World}{g:Nat}{r:RV}{v:Value}
theorem bM.lt (h:bM w g r v):g<w.heap.size:=aA h
theorem bM.ext (h:bM w g r v) (e:Ext w w'):bM w' g r v:=(e.block g h.lt).trans h
theorem bM.frozen (h:bM w g r v) (i:Nat):w.frozen? ⟨g,i,none⟩=false:=by
 unfold bM at h
 simp [World.frozen?,h]
theorem bM.row (h:bM w g r v):w.heap[g]?=some (.cells (bI r v) 103 (0,0)):=h
theorem hM (w:World) (r:RV) (v:Value):∃ wz,wz=w.alloc (.cells #[.string (aK r.st),.int .i64 r.num,.int .i64 r.day,.int .i64 r.nxt,v,.int .i64 r.iss,.int .i64 r.e,.int .i64 r.s] 103)/\Ext w wz/\bM wz w.heap.size r v :=
 ⟨_,rfl,(Below.refl _ _).alloc (YF _) _,aB w _⟩
theorem bM.c0 (h:bM w g r v):w.cell? ⟨g,0,none⟩=some (.string (aK r.st)):=by rw [cell_of_row w g 0 _ _ _ h];rfl
theorem bM.c1 (h:bM w g r v):w.cell? ⟨g,1,none⟩=some (.int .i64 r.num):=by rw [cell_of_row w g 1 _ _ _ h];rfl
theorem bM.c2 (h:bM w g r v):w.cell? ⟨g,2,none⟩=some (.int .i64 r.day):=by rw [cell_of_row w g 2 _ _ _ h];rfl
theorem bM.c3 (h:bM w g r v):w.cell? ⟨g,3,none⟩=some (.int .i64 r.nxt):=by rw [cell_of_row w g 3 _ _ _ h];rfl
theorem bM.c4 (h:bM w g r v):w.cell? ⟨g,4,none⟩=some (v):=by rw [cell_of_row w g 4 _ _ _ h];rfl
theorem bM.c5 (h:bM w g r v):w.cell? ⟨g,5,none⟩=some (.int .i64 r.iss):=by rw [cell_of_row w g 5 _ _ _ h];rfl
theorem bM.c6 (h:bM w g r v):w.cell? ⟨g,6,none⟩=some (.int .i64 r.e):=by rw [cell_of_row w g 6 _ _ _ h];rfl
theorem bM.c7 (h:bM w g r v):w.cell? ⟨g,7,none⟩=some (.int .i64 r.s):=by rw [cell_of_row w g 7 _ _ _ h];rfl
end
theorem MO (x:Int) (w:World):Calls Tryz.prog 165 #[.int .i64 x] w (dR w (.bool (!decide (eH x)))):=by
 have HS:=ZH (fun W=>cM x W)
 go_enter Tryz.func165,Tryz.ntmps165
 go_wp2_with fail
 refine (HS.out _).mono ?_
 rintro e w' ⟨rfl,rfl⟩
 go_wp2_with fail
 go_ret
 exact ⟨rfl,Below.refl _ _⟩
def GJ (l:List Int):Int:=if (l.any fun n=>!decide (eH n))=true then ((l.findIdx fun n=>!decide (eH n):Nat):Int) else -1
theorem SV (l:List Int):decide (0<=GJ l)=(l.any fun n=>!decide (eH n)):=by
 unfold GJ
 split
 · rename_i q;rw [q];exact decide_eq_true (by omega)
 · rename_i q;rw [Bool.not_eq_true] at q;rw [q];exact decide_eq_false (by omega)
set_option maxHeartbeats 2000000 in
theorem PE {v:Value}{l:List Int} (w:World) (hv:RdI w .i64 v l) :
 Calls Tryz.prog 230 #[v,.func (.func 165) #[] #[]] w (dR w (.int .i64 (GJ l))):=by
 obtain ⟨A,n,c,rfl,hn,hnc,hcm,hel⟩:=hv.ints
 subst hn
 unfold maxLen at hcm
 have HE:=ZH hel
 have HF:=ZH MO
 clear hv hel
 obtain ⟨r,hr⟩:∃ r,GJ l=r:=⟨_,rfl⟩
 rw [hr]
 have HR:=ZH hr
 clear hr
 go_enter Tryz.func230,Tryz.ntmps230
 go_wp2
 go_loopw [5,8] (fun _ i wr=>∃ j:Nat,j<=l.length/\i=.int .i64 (j:Int)/\Ext w wr/\Hid (∀ i u,i<j->l[i]?=some u->(!decide (eH u))=false)) (fun _ i _=>l.length - (intOf i).toNat)
 case atStart=>exact ⟨0,YK _,rfl,Below.refl _ _,ZH (fun i u h=>by omega)⟩
 case round =>
  obtain ⟨j,hj,rfl,bb,hlt0⟩:=hrel
  by_cases hlt:j<l.length
  · obtain ⟨t,ht⟩:∃ t,l[j]?=some t:=⟨_,YL hlt⟩
    obtain ⟨b,o,rfl,hbl,hc⟩:=HE.out (by omega)
    have l0:=(bb.cell (p:=⟨b,o+j,none⟩) hbl).trans (hc j hlt)
    rw [show l.getD j 0=t by rw [List.getD_eq_getElem?_getD,ht];rfl] at l0
    have HT:=ZH ht
    clear hc ht
    have wi1:IntKind.i64.wrap ((j:Int))=(j:Int):=IntWalk.i64_in _ (by omega)
    have zi1:(0:Int)<=(j:Int):=by omega
    have li1:(j:Int)<(l.length:Int):=by omega
    have ti1:((j:Int)).toNat=j:=by omega
    go_wp2_with fail
    refine (HF.out t _).mono ?_
    rintro e wy ⟨rfl,by_⟩
    cases hq:(!decide (eH t)) with
    | true =>
      have HN:=ZH (show r=(j:Int) by
       rw [<- HR.out]
       unfold GJ
       rw [if_pos (List.any_eq_true.2 ⟨t,YS HT.out,hq⟩)]
       congr 1
       rw [List.findIdx_eq hlt]
       refine ⟨?_,fun i hi=>?_⟩
       · have:=HT.out;rw [YL hlt] at this;rw [Option.some.inj this];exact hq
       · exact hlt0.out i _ hi (YL (by omega)))
      clear hq
      go_wp2_with fail
      go_ret
      exact ⟨by rw [HN.out];rfl,bb.tr by_⟩
    | false =>
      have HQ:=ZH hq
      clear hq
      go_wp2_with fail
      go_roundw
      case rel=>exact ⟨j+1,by omega,by go_num,bb.tr by_,ZH (fun i u hi hu=>by
       by_cases h:i=j
       · subst h
         rw [HT.out] at hu
         rw [<- Option.some.inj hu];exact HQ.out
       · exact hlt0.out i u (by omega) hu)⟩
      case measure=>simp [intOf];omega
  · obtain rfl:j=l.length:=by omega
    have HN:=ZH (show r=-1 by
     rw [<- HR.out]
     unfold GJ
     rw [if_neg]
     intro q
     obtain ⟨x,hx,hq⟩:=List.any_eq_true.1 q
     obtain ⟨i,hi⟩:=List.getElem?_of_mem hx
     rw [hlt0.out i x (List.getElem?_eq_some_iff.1 hi).1 hi] at hq
     cases hq)
    go_wp2
    go_ret
    exact ⟨by rw [HN.out];rfl,bb⟩
theorem tK {v:Value}{l:List Int} (w:World) (hv:RdI w .i64 v l) :
 Calls Tryz.prog 164 #[v,.func (.func 165) #[] #[]] w (dR w (.bool (l.any fun n=>!decide (eH n)))):=by
 have HI:=ZH (PE w hv)
 have HB:=ZH (SV l)
 generalize GJ l=z at *
 generalize (l.any fun n=>!decide (eH n))=q at *
 clear hv
 go_enter Tryz.func164,Tryz.ntmps164
 go_wp2_with fail
 refine HI.out.mono ?_
 rintro e w' ⟨rfl,b⟩
 go_wp2_with fail
 go_ret
 exact ⟨by rw [<- HB.out];rfl,b⟩
set_option maxHeartbeats 4000000 in
theorem wQ (r:RV) (v:Value) (w:World) (hv:RdI w .i64 v r.ser) (hs:r.st.length<=maxLen):Calls Tryz.prog 80 #[rvV r v] w (dR w (.int .i64 (ckR r))):=by
 obtain ⟨st,num,day,nxt,ser,iss,e,s⟩:=r
 simp only at hv hs
 obtain ⟨wz,hwz,ez,TZ⟩:=hM w ⟨st,num,day,nxt,ser,iss,e,s⟩ v
 have HST:=ZH (fun W=>sI st W hs)
 have HS1:=ZH (fun W=>cM num W)
 have HS2:=ZH (fun W=>cM iss W)
 have HSX:=ZH (fun (x:Int) W=>cM x W)
 have HB:=ZH (fun W (e:Ext w W)=>tK W (hv.ext e))
 have HV:=ZH (fun W (e:Ext w W)=>hv.ext e)
 obtain ⟨A,n,c,rfl,hn,hnc,hcm,hel⟩:=hv.ints
 subst hn
 unfold maxLen at hcm
 have HEL:=ZH hel
 have X:=ZH ez
 obtain ⟨K,hK⟩:∃ K,ckR ⟨st,num,day,nxt,ser,iss,e,s⟩=K:=⟨_,rfl⟩
 rw [hK]
 have HKK:=ZH hK
 clear hK hv hs hel ez
 have c0:=TZ.c0
 have c1:=TZ.c1
 have c2:=TZ.c2
 have c3:=TZ.c3
 have c4:=TZ.c4
 have c5:=TZ.c5
 have cl:=TZ.lt
 have HTZ:=ZH TZ
 clear TZ
 unfold rvV
 go_enter Tryz.func80,Tryz.ntmps80
 go_wp2_with fail
 rw [<- hwz]
 clear hwz
 refine (HST.out _).mono ?_
 rintro e0 w' ⟨rfl,rfl⟩
 by_cases h1:cC st
 case neg =>
  have HK:=ZH (show K=60 by rw [<- HKK.out];exact if_pos h1)
  rw [decide_eq_false h1]
  clear h1
  go_wp2_with fail
  go_ret
  exact ⟨by rw [HK.out];rfl,X.out⟩
 rw [decide_eq_true h1]
 have H1:=ZH h1
 clear h1
 go_wp2_with fail
 refine (HS1.out _).mono ?_
 rintro e0 w' ⟨rfl,rfl⟩
 by_cases h2:eH num
 case neg =>
  have HK:=ZH (show K=3 by rw [<- HKK.out];unfold ckR;rw [if_neg (not_not_intro H1.out),if_pos (fun q=>h2 q.1)])
  rw [decide_eq_false h2]
  clear h2
  go_wp2_with fail
  go_ret
  exact ⟨by rw [HK.out];rfl,X.out⟩
 rw [decide_eq_true h2]
 have H2:=ZH h2
 clear h2
 go_wp2_with fail
 refine (HS2.out _).mono ?_
 rintro e0 w' ⟨rfl,rfl⟩
 by_cases h3:eH iss
 case neg =>
  have HK:=ZH (show K=3 by rw [<- HKK.out];unfold ckR;rw [if_neg (not_not_intro H1.out),if_pos (fun q=>h3 q.2)])
  rw [decide_eq_false h3]
  clear h3
  go_wp2_with fail
  go_ret
  exact ⟨by rw [HK.out];rfl,X.out⟩
 rw [decide_eq_true h3]
 have H3:=ZH (And.intro H2.out h3)
 clear h3 H2
 by_cases h4:0<=day
 case neg =>
  have hb:day<0:=by omega
  have HK:=ZH (show K=8 by rw [<- HKK.out];unfold ckR;rw [if_neg (not_not_intro H1.out),if_neg (not_not_intro H3.out),if_pos (fun q=>h4 q.1)])
  clear h4
  go_wp2_with fail
  go_ret
  exact ⟨by rw [HK.out];rfl,X.out⟩
 have hb4:¬ day<0:=by omega
 by_cases h5:day<=nxt
 case neg =>
  have hb:nxt<day:=by omega
  have HK:=ZH (show K=8 by rw [<- HKK.out];unfold ckR;rw [if_neg (not_not_intro H1.out),if_neg (not_not_intro H3.out),if_pos (fun q=>h5 q.2.1)])
  clear h5 h4
  go_wp2_with fail
  go_ret
  exact ⟨by rw [HK.out];rfl,X.out⟩
 have hb5:¬ nxt<day:=by omega
 by_cases h6:nxt<=73048
 case neg =>
  have hb:73048<nxt:=by omega
  have HK:=ZH (show K=8 by rw [<- HKK.out];unfold ckR;rw [if_neg (not_not_intro H1.out),if_neg (not_not_intro H3.out),if_pos (fun q=>h6 q.2.2)])
  clear h6 h5 h4
  go_wp2_with fail
  go_ret
  exact ⟨by rw [HK.out];rfl,X.out⟩
 have hb6:¬ 73048<nxt:=by omega
 have H6:=ZH (show 0<=day/\day<=nxt/\nxt<=73048 from ⟨h4,h5,h6⟩)
 clear h4 h5 h6
 by_cases h7:64<ser.length
 case pos =>
  have hb:(64:Int)<(ser.length:Int):=by omega
  have HK:=ZH (show K=72 by rw [<- HKK.out];unfold ckR;rw [if_neg (not_not_intro H1.out),if_neg (not_not_intro H3.out),if_neg (not_not_intro H6.out),if_pos h7])
  clear h7
  go_wp2_with fail
  go_ret
  exact ⟨by rw [HK.out];rfl,X.out⟩
 have hb7:¬ ((64:Int)<(ser.length:Int)):=by omega
 have H7:=ZH h7
 clear h7
 go_wp2_with fail
 refine (HB.out _ X.out).mono ?_
 rintro e0 w2 ⟨rfl,b2⟩
 have X2:=ZH (X.out.tr b2)
 have T2:=ZH (HTZ.out.ext b2)
 clear c0 c1 c2 c3 c4 c5 cl b2 hb4 hb5 hb6 hb7
 by_cases h8:(ser.any fun n=>!decide (eH n))=true
 case pos =>
  have HK:=ZH (show K=3 by rw [<- HKK.out];unfold ckR;rw [if_neg (not_not_intro H1.out),if_neg (not_not_intro H3.out),if_neg (not_not_intro H6.out),if_neg H7.out,if_pos h8])
  rw [h8]
  clear h8
  go_wp2_with fail
  go_ret
  exact ⟨by rw [HK.out];rfl,X2.out⟩
 have h8':(ser.any fun n=>!decide (eH n))=false:=by simpa using h8
 have H8:=ZH h8
 rw [h8']
 clear h8 h8'
 have c4:=T2.out.c4
 have cl:=T2.out.lt
 go_wp2_with fail
 go_loopw [3] (fun s3 wr=>∃ i:Nat,1<=i/\(i<=ser.length \/ i=1)/\s3=.int .i64 (i:Int)/\Hid (∀ (j:Nat) (x y:Int),j+1<i->ser[j]?=some x->ser[j+1]?=some y->x<y)/\Hid (Ext w wr)/\Hid (bM wr w.heap.size ⟨st,num,day,nxt,ser,iss,e,s⟩ (.slice A ser.length c))) (fun s3 _=>ser.length - (intOf s3).toNat)
 case atStart=>exact ⟨1,YF _,.inr rfl,rfl,fun j x y h=>absurd h (by omega),X2,T2⟩
 case round =>
  obtain ⟨i,h1i,hi,rfl,HN,X3,T3⟩:=hrel
  clear c4 cl
  have c4:=T3.out.c4
  have cl:=T3.out.lt
  by_cases hlt:i<ser.length
  case neg =>
   have HA:=ZH (show tZ ser=true from oH.2 fun j x y hx hy=>HN.out j x y (by have:=(List.getElem?_eq_some_iff.1 hy).1;omega) hx hy)
   have HK:=ZH (show K=0 by rw [<- HKK.out];unfold ckR;rw [if_neg (not_not_intro H1.out),if_neg (not_not_intro H3.out),if_neg (not_not_intro H6.out),if_neg H7.out,if_neg H8.out,if_pos HA.out])
   have hb9:¬ ((i:Int)<(ser.length:Int)):=by omega
   go_wp2_with fail
   go_ret
   exact ⟨by rw [HK.out];rfl,X3.out⟩
  case pos =>
  obtain ⟨t,ht⟩:∃ t,ser[i]?=some t:=⟨_,YL hlt⟩
  obtain ⟨t0,ht0⟩:∃ t0,ser[i - 1]?=some t0:=⟨_,YL (by omega)⟩
  obtain ⟨b,o,rfl,hbl,hc⟩:=HEL.out (by omega)
  have l0:=(X3.out.cell (p:=⟨b,o+i,none⟩) hbl).trans (hc i hlt)
  have l1:=(X3.out.cell (p:=⟨b,o+(i - 1),none⟩) hbl).trans (hc (i - 1) (by omega))
  rw [show ser.getD i 0=t by rw [List.getD_eq_getElem?_getD,ht];rfl] at l0
  rw [show ser.getD (i - 1) 0=t0 by rw [List.getD_eq_getElem?_getD,ht0];rfl] at l1
  have HT:=ZH ht
  have HT0:=ZH ht0
  clear hc ht ht0
  have wi2:IntKind.i64.wrap ((i:Int))=(i:Int):=IntWalk.i64_in _ (by omega)
  have zi2:(0:Int)<=(i:Int):=by omega
  have li2:(i:Int)<(ser.length:Int):=by omega
  have ti2:((i:Int)).toNat=i:=by omega
  have wi3:IntKind.i64.wrap (((i:Int) - 1))=((i:Int) - 1):=IntWalk.i64_in _ (by omega)
  have zi3:(0:Int)<=((i:Int) - 1):=by omega
  have li3:((i:Int) - 1)<(ser.length:Int):=by omega
  have ti3:(((i:Int) - 1)).toNat=i - 1:=by omega
  have wk:IntKind.i64.wrap ((i:Int)+1)=(i:Int)+1:=IntWalk.i64_in _ (by omega)
  by_cases hq:t<=t0
  · have HA:=ZH (show ¬ tZ ser=true from fun q=>by
     have:=oH.1 q (i - 1) t0 t HT0.out (by rw [Nat.sub_add_cancel h1i];exact HT.out)
     omega)
    have HK:=ZH (show K=17 by rw [<- HKK.out];unfold ckR;rw [if_neg (not_not_intro H1.out),if_neg (not_not_intro H3.out),if_neg (not_not_intro H6.out),if_neg H7.out,if_neg H8.out,if_neg HA.out])
    have hd:decide (t<=t0)=true:=decide_eq_true hq
    clear hq
    go_wp2_with (go_quiet (fail))
    have XQ:=ZH (X3.out.tr (Ext.drewN_ wr nq))
    go_wp2_with fail
    go_ret
    exact ⟨by rw [HK.out];rfl,XQ.out⟩
  · have hd:decide (t<=t0)=false:=decide_eq_false hq
    have HN2:=ZH (show ∀ (j:Nat) (x y:Int),j+1<i+1->ser[j]?=some x->ser[j+1]?=some y->x<y from fun j x y hj hx hy=>by
     by_cases h:j+1=i
     · have e1:j=i - 1:=by omega
       subst e1
       rw [HT0.out] at hx
       rw [h,HT.out] at hy
       obtain rfl:=Option.some.inj hx
       obtain rfl:=Option.some.inj hy
       omega
     · exact HN.out j x y (by omega) hx hy)
    go_wp2_with (go_quiet (fail))
    have XQ:=ZH (X3.out.tr (Ext.drewN_ wr nq))
    have TQ:=ZH (T3.out.ext (Ext.drewN_ wr nq))
    generalize wr.drewN nq=wx at *
    go_wp2_with fail
    go_roundw
    case rel=>repeat (first | exact ⟨i+1,by omega,.inl (by omega),by go_num,HN2,XQ,TQ⟩ | exact ⟨⟨i+1,by omega,.inl (by omega),by go_num,HN2,XQ,TQ⟩,rfl⟩ | refine ⟨_,?_⟩)
    case measure=>simp [intOf];omega
set_option maxHeartbeats 4000000 in
theorem xY (r:RV) (v:Value) (w:World) (hv:RdI w .i64 v r.ser) (hs:r.st.length<=maxLen):Calls Tryz.prog 81 #[rvV r v] w (dR w (.int .i64 (ckR r))):=by
 obtain ⟨st,num,day,nxt,ser,iss,e,s⟩:=r
 simp only at hv hs
 obtain ⟨wz,hwz,ez,TZ⟩:=hM w ⟨st,num,day,nxt,ser,iss,e,s⟩ v
 have HST:=ZH (fun W=>kB st W hs)
 have HS1:=ZH (fun W=>cF num W)
 have HS2:=ZH (fun W=>cF iss W)
 have HSX:=ZH (fun (x:Int) W=>cF x W)
 have HB:=ZH (fun W (e:Ext w W)=>tK W (hv.ext e))
 have HV:=ZH (fun W (e:Ext w W)=>hv.ext e)
 obtain ⟨A,n,c,rfl,hn,hnc,hcm,hel⟩:=hv.ints
 subst hn
 unfold maxLen at hcm
 have HEL:=ZH hel
 have X:=ZH ez
 obtain ⟨K,hK⟩:∃ K,ckR ⟨st,num,day,nxt,ser,iss,e,s⟩=K:=⟨_,rfl⟩
 rw [hK]
 have HKK:=ZH hK
 clear hK hv hs hel ez
 have c0:=TZ.c0
 have c1:=TZ.c1
 have c2:=TZ.c2
 have c3:=TZ.c3
 have c4:=TZ.c4
 have c5:=TZ.c5
 have cl:=TZ.lt
 have HTZ:=ZH TZ
 clear TZ
 unfold rvV
 go_enter Tryz.func81,Tryz.ntmps81
 go_wp2_with fail
 rw [<- hwz]
 clear hwz
 refine (HST.out _).mono ?_
 rintro e0 w' ⟨rfl,rfl⟩
 by_cases h1:cC st
 case neg =>
  have HK:=ZH (show K=60 by rw [<- HKK.out];exact if_pos h1)
  rw [decide_eq_false h1]
  clear h1
  go_wp2_with fail
  go_ret
  exact ⟨by rw [HK.out];rfl,X.out⟩
 rw [decide_eq_true h1]
 have H1:=ZH h1
 clear h1
 go_wp2_with fail
 refine (HS1.out _).mono ?_
 rintro e0 w' ⟨rfl,rfl⟩
 by_cases h2:eH num
 case neg =>
  have HK:=ZH (show K=3 by rw [<- HKK.out];unfold ckR;rw [if_neg (not_not_intro H1.out),if_pos (fun q=>h2 q.1)])
  rw [decide_eq_false h2]
  clear h2
  go_wp2_with fail
  go_ret
  exact ⟨by rw [HK.out];rfl,X.out⟩
 rw [decide_eq_true h2]
 have H2:=ZH h2
 clear h2
 go_wp2_with fail
 refine (HS2.out _).mono ?_
 rintro e0 w' ⟨rfl,rfl⟩
 by_cases h3:eH iss
 case neg =>
  have HK:=ZH (show K=3 by rw [<- HKK.out];unfold ckR;rw [if_neg (not_not_intro H1.out),if_pos (fun q=>h3 q.2)])
  rw [decide_eq_false h3]
  clear h3
  go_wp2_with fail
  go_ret
  exact ⟨by rw [HK.out];rfl,X.out⟩
 rw [decide_eq_true h3]
 have H3:=ZH (And.intro H2.out h3)
 clear h3 H2
 by_cases h4:0<=day
 case neg =>
  have hb:day<0:=by omega
  have HK:=ZH (show K=8 by rw [<- HKK.out];unfold ckR;rw [if_neg (not_not_intro H1.out),if_neg (not_not_intro H3.out),if_pos (fun q=>h4 q.1)])
  clear h4
  go_wp2_with fail
  go_ret
  exact ⟨by rw [HK.out];rfl,X.out⟩
 have hb4:¬ day<0:=by omega
 by_cases h5:day<=nxt
 case neg =>
  have hb:nxt<day:=by omega
  have HK:=ZH (show K=8 by rw [<- HKK.out];unfold ckR;rw [if_neg (not_not_intro H1.out),if_neg (not_not_intro H3.out),if_pos (fun q=>h5 q.2.1)])
  clear h5 h4
  go_wp2_with fail
  go_ret
  exact ⟨by rw [HK.out];rfl,X.out⟩
 have hb5:¬ nxt<day:=by omega
 by_cases h6:nxt<=73048
 case neg =>
  have hb:73048<nxt:=by omega
  have HK:=ZH (show K=8 by rw [<- HKK.out];unfold ckR;rw [if_neg (not_not_intro H1.out),if_neg (not_not_intro H3.out),if_pos (fun q=>h6 q.2.2)])
  clear h6 h5 h4
  go_wp2_with fail
  go_ret
  exact ⟨by rw [HK.out];rfl,X.out⟩
 have hb6:¬ 73048<nxt:=by omega
 have H6:=ZH (show 0<=day/\day<=nxt/\nxt<=73048 from ⟨h4,h5,h6⟩)
 clear h4 h5 h6
 by_cases h7:64<ser.length
 case pos =>
  have hb:(64:Int)<(ser.length:Int):=by omega
  have HK:=ZH (show K=72 by rw [<- HKK.out];unfold ckR;rw [if_neg (not_not_intro H1.out),if_neg (not_not_intro H3.out),if_neg (not_not_intro H6.out),if_pos h7])
  clear h7
  go_wp2_with fail
  go_ret
  exact ⟨by rw [HK.out];rfl,X.out⟩
 have hb7:¬ ((64:Int)<(ser.length:Int)):=by omega
 have H7:=ZH h7
 clear h7
 go_wp2_with fail
 clear c0 c1 c2 c3 c5 hb4 hb5 hb6
 go_loopw [3] (fun s3 wr=>∃ i:Nat,i<=ser.length/\s3=.int .i64 (i:Int)/\Hid (∀ (j:Nat) (x:Int),j<i->ser[j]?=some x->eH x)/\wr=wz) (fun s3 _=>ser.length - (intOf s3).toNat)
 case atStart=>exact ⟨0,YK _,rfl,fun j x h=>absurd h (Nat.not_lt_zero _),rfl⟩
 case round =>
  obtain ⟨i,hi,rfl,HN,hwr⟩:=hrel
  subst hwr
  by_cases hlt:i<ser.length
  case pos =>
   obtain ⟨t,ht⟩:∃ t,ser[i]?=some t:=⟨_,YL hlt⟩
   obtain ⟨b,o,rfl,hbl,hc⟩:=HEL.out (by omega)
   have l0:=(X.out.cell (p:=⟨b,o+i,none⟩) hbl).trans (hc i hlt)
   rw [show ser.getD i 0=t by rw [List.getD_eq_getElem?_getD,ht];rfl] at l0
   have HT:=ZH ht
   clear hc ht
   have wi4:IntKind.i64.wrap ((i:Int))=(i:Int):=IntWalk.i64_in _ (by omega)
   have zi4:(0:Int)<=(i:Int):=by omega
   have li4:(i:Int)<(ser.length:Int):=by omega
   have ti4:((i:Int)).toNat=i:=by omega
   go_wp2_with fail
   refine (HSX.out t _).mono ?_
   rintro e0 w' ⟨rfl,rfl⟩
   by_cases hq:eH t
   · rw [decide_eq_true hq]
     have HN2:=ZH (show ∀ (j:Nat) (x:Int),j<i+1->ser[j]?=some x->eH x from fun j x hj hx=>by
      by_cases h:j=i
      · subst h
        rw [HT.out] at hx
        rw [<- Option.some.inj hx];exact hq
      · exact HN.out j x (by omega) hx)
     clear hq
     go_wp2_with fail
     go_roundw
     case rel=>repeat (first | exact ⟨i+1,by omega,by go_num,HN2,trivial⟩ | exact ⟨i+1,by omega,by go_num,HN2,rfl⟩ | exact ⟨⟨i+1,by omega,by go_num,HN2,rfl⟩,rfl⟩ | refine ⟨_,?_⟩)
     case measure=>simp [intOf];omega
   · have HK:=ZH (show K=3 by rw [<- HKK.out];unfold ckR;rw [if_neg (not_not_intro H1.out),if_neg (not_not_intro H3.out),if_neg (not_not_intro H6.out),if_neg H7.out,if_pos (List.any_eq_true.2 ⟨t,YS HT.out,by simp [hq]⟩)])
     rw [decide_eq_false hq]
     clear hq
     go_wp2_with fail
     go_ret
     exact ⟨by rw [HK.out];rfl,X.out⟩
  case neg =>
  obtain rfl:i=ser.length:=by omega
  have H8:=ZH (show ¬ (ser.any fun n=>!decide (eH n))=true from fun q=>by
   obtain ⟨x,hx,hq⟩:=List.any_eq_true.1 q
   obtain ⟨i,hi⟩:=List.getElem?_of_mem hx
   have:=HN.out i x (List.getElem?_eq_some_iff.1 hi).1 hi
   simp [this] at hq)
  have X2:=X
  have T2:=HTZ
  clear hlt hi HN hb7
  go_wp2_with fail
  go_loopw [4] (fun s3 wr=>∃ i:Nat,1<=i/\(i<=ser.length \/ i=1)/\s3=.int .i64 (i:Int)/\Hid (∀ (j:Nat) (x y:Int),j+1<i->ser[j]?=some x->ser[j+1]?=some y->x<y)/\Hid (Ext w wr)/\Hid (bM wr w.heap.size ⟨st,num,day,nxt,ser,iss,e,s⟩ (.slice A ser.length c))) (fun s3 _=>ser.length - (intOf s3).toNat)
  case atStart=>exact ⟨1,YF _,.inr rfl,rfl,fun j x y h=>absurd h (by omega),X2,T2⟩
  case round =>
   obtain ⟨i,h1i,hi,rfl,HN,X3,T3⟩:=hrel
   clear c4 cl
   have c4:=T3.out.c4
   have cl:=T3.out.lt
   by_cases hlt:i<ser.length
   case neg =>
    have HA:=ZH (show tZ ser=true from oH.2 fun j x y hx hy=>HN.out j x y (by have:=(List.getElem?_eq_some_iff.1 hy).1;omega) hx hy)
    have HK:=ZH (show K=0 by rw [<- HKK.out];unfold ckR;rw [if_neg (not_not_intro H1.out),if_neg (not_not_intro H3.out),if_neg (not_not_intro H6.out),if_neg H7.out,if_neg H8.out,if_pos HA.out])
    have hb9:¬ ((i:Int)<(ser.length:Int)):=by omega
    go_wp2_with fail
    go_ret
    exact ⟨by rw [HK.out];rfl,X3.out⟩
   case pos =>
   obtain ⟨t,ht⟩:∃ t,ser[i]?=some t:=⟨_,YL hlt⟩
   obtain ⟨t0,ht0⟩:∃ t0,ser[i - 1]?=some t0:=⟨_,YL (by omega)⟩
   obtain ⟨b,o,rfl,hbl,hc⟩:=HEL.out (by omega)
   have l0:=(X3.out.cell (p:=⟨b,o+i,none⟩) hbl).trans (hc i hlt)
   have l1:=(X3.out.cell (p:=⟨b,o+(i - 1),none⟩) hbl).trans (hc (i - 1) (by omega))
   rw [show ser.getD i 0=t by rw [List.getD_eq_getElem?_getD,ht];rfl] at l0
   rw [show ser.getD (i - 1) 0=t0 by rw [List.getD_eq_getElem?_getD,ht0];rfl] at l1
   have HT:=ZH ht
   have HT0:=ZH ht0
   clear hc ht ht0
   have wi5:IntKind.i64.wrap ((i:Int))=(i:Int):=IntWalk.i64_in _ (by omega)
   have zi5:(0:Int)<=(i:Int):=by omega
   have li5:(i:Int)<(ser.length:Int):=by omega
   have ti5:((i:Int)).toNat=i:=by omega
   have wi6:IntKind.i64.wrap (((i:Int) - 1))=((i:Int) - 1):=IntWalk.i64_in _ (by omega)
   have zi6:(0:Int)<=((i:Int) - 1):=by omega
   have li6:((i:Int) - 1)<(ser.length:Int):=by omega
   have ti6:(((i:Int) - 1)).toNat=i - 1:=by omega
   have wk:IntKind.i64.wrap ((i:Int)+1)=(i:Int)+1:=IntWalk.i64_in _ (by omega)
   by_cases hq:t<=t0
   · have HA:=ZH (show ¬ tZ ser=true from fun q=>by
      have:=oH.1 q (i - 1) t0 t HT0.out (by rw [Nat.sub_add_cancel h1i];exact HT.out)
      omega)
     have HK:=ZH (show K=17 by rw [<- HKK.out];unfold ckR;rw [if_neg (not_not_intro H1.out),if_neg (not_not_intro H3.out),if_neg (not_not_intro H6.out),if_neg H7.out,if_neg H8.out,if_neg HA.out])
     have hd:decide (t<=t0)=true:=decide_eq_true hq
     clear hq
     go_wp2_with (go_quiet (fail))
     have XQ:=ZH (X3.out.tr (Ext.drewN_ wr nq))
     go_wp2_with fail
     go_ret
     exact ⟨by rw [HK.out];rfl,XQ.out⟩
   · have hd:decide (t<=t0)=false:=decide_eq_false hq
     have HN2:=ZH (show ∀ (j:Nat) (x y:Int),j+1<i+1->ser[j]?=some x->ser[j+1]?=some y->x<y from fun j x y hj hx hy=>by
      by_cases h:j+1=i
      · have e1:j=i - 1:=by omega
        subst e1
        rw [HT0.out] at hx
        rw [h,HT.out] at hy
        obtain rfl:=Option.some.inj hx
        obtain rfl:=Option.some.inj hy
        omega
      · exact HN.out j x y (by omega) hx hy)
     go_wp2_with (go_quiet (fail))
     have XQ:=ZH (X3.out.tr (Ext.drewN_ wr nq))
     have TQ:=ZH (T3.out.ext (Ext.drewN_ wr nq))
     generalize wr.drewN nq=wx at *
     go_wp2_with fail
     go_roundw
     case rel=>repeat (first | exact ⟨i+1,by omega,.inl (by omega),by go_num,HN2,XQ,TQ⟩ | exact ⟨⟨i+1,by omega,.inl (by omega),by go_num,HN2,XQ,TQ⟩,rfl⟩ | refine ⟨_,?_⟩)
     case measure=>simp [intOf];omega
def fT (r:RV):Nd:=.mk 49 [] [bC 19 r.st,bC 130 (be4 r.num),bC 131 (be4 r.iss),bC 134 (be3 r.day++be3 r.nxt),bC 136 (eW 4 r.ser)]
def dK (r:RV):List UInt8:=bZ 2 [fT r]
def byR (r:RV):List UInt8:=if ckR r=0 then dK r else []
theorem wR {r:RV} (h:ckR r=0):cC r.st/\(eH r.num/\eH r.iss)/\(0<=r.day/\r.day<=r.nxt/\r.nxt<=73048)/\r.ser.length<=64/\(∀ n ∈ r.ser,eH n)/\tZ r.ser=true:=by
 unfold ckR at h
 split at h
 · cases h
 rename_i h1
 split at h
 · cases h
 rename_i h2
 split at h
 · cases h
 rename_i h3
 split at h
 · cases h
 rename_i h4
 split at h
 · cases h
 rename_i h5
 split at h
 · rename_i h6
   refine ⟨Decidable.not_not.1 h1,Decidable.not_not.1 h2,Decidable.not_not.1 h3,by omega,fun n hn=>?_,h6⟩
   by_cases q:eH n
   · exact q
   · exact absurd (List.any_eq_true.2 ⟨n,hn,by simp [q]⟩) h5
 · cases h
theorem zG (r:RV):kY 2 [fT r]:=by
 refine cD (B6 (by decide) (by decide) (by decide) (by decide) ?_) (jY _)
 refine cD (gE (by decide) (by decide) (by decide) (by decide)) ?_
 refine cD (gE (by decide) (by decide) (by decide) (by decide)) ?_
 refine cD (gE (by decide) (by decide) (by decide) (by decide)) ?_
 refine cD (gE (by decide) (by decide) (by decide) (by decide)) ?_
 exact cD (gE (by decide) (by decide) (by decide) (by decide)) (jY _)
theorem wS (r:RV):bV 2 [fT r]<=256:=show 6<=256 by omega
theorem wT {r:RV} (h:ckR r=0):(dK r).length<=400:=by
 obtain ⟨h1,_,_,h4,_⟩:=wR h
 have h1:=h1.1.2
 have h:=kZ 2 [fT r]
 have e1:bV 2 [fT r]=6:=rfl
 have e2:gP 2 [fT r]=r.st.length+14+r.ser.length*4:=by
  simp only [gP,fT,bC,oF,Nd.val,Nd.kids,List.map_cons,List.map_nil,List.sum_cons,List.sum_nil,YJ,YN,YP,be4,be3]
  omega
 unfold dK
 omega
theorem tL {r:RV} (h:ckR r=0):(bZ 2 [fT r]).length<=4096:=by
 have:=wT h
 unfold dK at this
 omega
theorem SW (x y:Int):eW 3 [x,y]=be3 x++be3 y:=by
 show beN 3 x++(beN 3 y++[])=_
 rw [List.append_nil,mU,mU]
def GBs (l:List UInt8):aE:=fun v w=>∃ A n c,v=.slice A n c/\Hid (n=l.length)/\Rd w (.slice A n c) (bvs l)
def PBs (l:List UInt8):aE:=fun v w=>∃ A n c,v=.tuple #[.slice A n c,.int .i64 0]/\Hid (n=l.length)/\Rd w (.slice A n c) (bvs l)
theorem wU (l:List UInt8):cZ (GBs l):=fun v w w' e ⟨A,n,c,h1,h2,h3⟩=>⟨A,n,c,h1,h2,h3.ext e⟩
theorem GK (l:List UInt8):cZ (PBs l):=fun v w w' e ⟨A,n,c,h1,h2,h3⟩=>⟨A,n,c,h1,h2,h3.ext e⟩
theorem PF {l:List UInt8}{v:Value}{W:World} (h:PBs l v W):∃ v' w'',(Instr.extract v 0).run Tryz.prog W=.ok v' w''/\Ext W w''/\GBs l v' w'':=by
 obtain ⟨A,n,c,rfl,h2,h3⟩:=h
 exact ⟨_,_,rfl,Below.refl _ _,A,n,c,rfl,h2,h3⟩
theorem PG {l:List UInt8}{v:Value}{W:World} (h:PBs l v W):∃ v' w'',(Instr.extract v 1).run Tryz.prog W=.ok v' w''/\Ext W w''/\v'=.int .i64 0:=by
 obtain ⟨A,n,c,rfl,h2,h3⟩:=h
 exact ⟨_,_,rfl,Below.refl _ _,rfl⟩
theorem GL {f:FuncId}{args:Array Value}{w:World}{l:List UInt8} (h:Calls Tryz.prog f args w (yU w l 0)):Calls Tryz.prog f args w fun e w'=>∃ v,e=.returned v/\Ext w w'/\PBs l v w' :=
 h.mono fun e w' ⟨A,n,c,h1,h2,h3,h4⟩=>⟨_,h1,h4,A,n,c,rfl,h2,h3.rd⟩
set_option maxHeartbeats 1000000 in
theorem SY (W:World) (z0:Int) (a0 b0:Option Addr) (n0 c0 m0 d0:Nat) (z1:Int) (a1 b1:Option Addr) (n1 c1 m1 d1:Nat) (z2:Int) (a2 b2:Option Addr) (n2 c2 m2 d2:Nat) (z3:Int) (a3 b3:Option Addr) (n3 c3 m3 d3:Nat) (z4:Int) (a4 b4:Option Addr) (n4 c4 m4 d4:Nat):(Instr.buildSlice 178 5 [(0,.agg #[.int .i64 z0,.slice a0 n0 c0,.slice b0 m0 d0]),(1,.agg #[.int .i64 z1,.slice a1 n1 c1,.slice b1 m1 d1]),(2,.agg #[.int .i64 z2,.slice a2 n2 c2,.slice b2 m2 d2]),(3,.agg #[.int .i64 z3,.slice a3 n3 c3,.slice b3 m3 d3]),(4,.agg #[.int .i64 z4,.slice a4 n4 c4,.slice b4 m4 d4])].toArray).run Tryz.prog W=.ok (.slice (some ⟨W.heap.size,0,none⟩) 5 5) (W.alloc (.cells #[.int .i64 z0,.slice a0 n0 c0,.slice b0 m0 d0,.int .i64 z1,.slice a1 n1 c1,.slice b1 m1 d1,.int .i64 z2,.slice a2 n2 c2,.slice b2 m2 d2,.int .i64 z3,.slice a3 n3 c3,.slice b3 m3 d3,.int .i64 z4,.slice a4 n4 c4,.slice b4 m4 d4] 180)):=by go_simp
theorem GM {B d:Nat} (W:World) (hB:B<=W.heap.size) {v0 v1 v2 v3 v4:Value}{t0 t1 t2 t3 t4:Nd} (h0:NdG B d t0 v0 W) (h1:NdG B d t1 v1 W) (h2:NdG B d t2 v2 W) (h3:NdG B d t3 v3 W) (h4:NdG B d t4 v4 W):∃ v' w'',(Instr.buildSlice 178 5 [(0,v0),(1,v1),(2,v2),(3,v3),(4,v4)].toArray).run Tryz.prog W=.ok v' w''/\Ext W w''/\vT B (d+1) [t0,t1,t2,t3,t4] v' w'':=by
 obtain ⟨a0,n0,c0,b0,m0,d0,rfl,r0,k0⟩:=h0
 obtain ⟨a1,n1,c1,b1,m1,d1,rfl,r1,k1⟩:=h1
 obtain ⟨a2,n2,c2,b2,m2,d2,rfl,r2,k2⟩:=h2
 obtain ⟨a3,n3,c3,b3,m3,d3,rfl,r3,k3⟩:=h3
 obtain ⟨a4,n4,c4,b4,m4,d4,rfl,r4,k4⟩:=h4
 exact ⟨_,_,SY W t0.tag a0 b0 n0 c0 m0 d0 t1.tag a1 b1 n1 c1 m1 d1 t2.tag a2 b2 n2 c2 m2 d2 t3.tag a3 b3 n3 c3 m3 d3 t4.tag a4 b4 n4 c4 m4 d4,(Below.refl _ _).alloc (YF _) _,qE [.int .i64 t0.tag,.slice a0 n0 c0,.slice b0 m0 d0,.int .i64 t1.tag,.slice a1 n1 c1,.slice b1 m1 d1,.int .i64 t2.tag,.slice a2 n2 c2,.slice b2 m2 d2,.int .i64 t3.tag,.slice a3 n3 c3,.slice b3 m3 d3,.int .i64 t4.tag,.slice a4 n4 c4,.slice b4 m4 d4] [t0,t1,t2,t3,t4] 5 rfl (by omega) ((((((cN.nil _ d W).snoc r0 k0).snoc r1 k1).snoc r2 k2).snoc r3 k3).snoc r4 k4) hB⟩
set_option maxHeartbeats 4000000 in
theorem MP (r:RV) (v:Value) (w:World) (hv:RdI w .i64 v r.ser) (hs:r.st.length<=maxLen):Calls Tryz.prog 76 #[rvV r v] w (CZ w (byR r) (ckR r)):=by
 obtain ⟨wz,hwz,ez,TZ⟩:=hM w r v
 have HC:=ZH (fun W (e:Ext w W)=>wQ r v W (hv.ext e) hs)
 obtain ⟨A,n,c,rfl,hn,hnc,hcm,hel⟩:=hv.ints
 subst hn
 have HV:=ZH (fun W (e:Ext w W)=>hv.ext e)
 clear hv hel hs
 have HTZ:=ZH TZ
 clear TZ
 unfold rvV
 go_enter Tryz.func76,Tryz.ntmps76
 go_wp2_with fail
 rw [<- hwz]
 clear hwz
 refine (HC.out _ ez).mono ?_
 rintro e ww ⟨rfl,b1⟩
 have x1:=ez.tr b1
 have HT:=ZH (HTZ.out.ext b1)
 have c0:=HT.out.c0
 have c1:=HT.out.c1
 have c2:=HT.out.c2
 have c3:=HT.out.c3
 have c4:=HT.out.c4
 have c5:=HT.out.c5
 have cl:=HT.out.lt
 clear b1
 by_cases hc:ckR r=0
 · have HK:=ZH hc
   have HB:=ZH (show byR r=dK r from if_pos hc)
   have h64:=(wR hc).2.2.2.1
   have sa:r.st.length<=4096:=by have:=(wR hc).1.1.2;omega
   rw [hc]
   clear hc
   go_wp2_with fail
   clear c0 c1 c2 c3 c4 c5 cl
   refine Gd.aI 33 (by kernel_rfl) (by kernel_rfl) ?_
   simp only [YT,YQ,YU,YV]
   intro w1 hw1
   have LL:∀ m:Lt w1,Ext ww m.1:=fun m=>hw1.tr m.2
   have v0:∀ m:Lt w1,m.1.cell? ⟨w.heap.size,0,none⟩=some (.string (aK r.st)):=fun m=>(HT.out.ext (LL m)).c0
   have v1:∀ m:Lt w1,m.1.cell? ⟨w.heap.size,1,none⟩=some (.int .i64 r.num):=fun m=>(HT.out.ext (LL m)).c1
   have v2:∀ m:Lt w1,m.1.cell? ⟨w.heap.size,2,none⟩=some (.int .i64 r.day):=fun m=>(HT.out.ext (LL m)).c2
   have v3:∀ m:Lt w1,m.1.cell? ⟨w.heap.size,3,none⟩=some (.int .i64 r.nxt):=fun m=>(HT.out.ext (LL m)).c3
   have v4:∀ m:Lt w1,m.1.cell? ⟨w.heap.size,4,none⟩=some (.slice A r.ser.length c):=fun m=>(HT.out.ext (LL m)).c4
   have v5:∀ m:Lt w1,m.1.cell? ⟨w.heap.size,5,none⟩=some (.int .i64 r.iss):=fun m=>(HT.out.ext (LL m)).c5
   have BB:∀ m:Lt w1,ww.heap.size<=m.1.heap.size:=fun m=>(LL m).size
   have VB:∀ m:Lt w1,RdI m.1 .i64 (.slice A r.ser.length c) r.ser:=fun m=>HV.out m.1 (x1.tr (LL m))
   repeat (refine Gd.aC rfl fun K hK=>?_;go_big_quiet_op;refine hK _ ?_;clear hK K)
   refine Gd.jK (Gd.gR rfl) (GS ww.heap.size r.st) (bP _ _) (fun _=>.string (aK r.st)) rfl rfl rfl rfl rfl (fun _=>rfl) (fun m f hf=>B9 m.1 (BB m) r.st sa) ?_
   simp only [Act.put,YG,YI,YH]
   refine Gd.bW (Gd.gR rfl) (NdG ww.heap.size 0 (bC 19 r.st)) (bF _ _ _) (fun f=>[(0,.int .i64 19),(1,f 12)]) rfl rfl rfl rfl rfl (fun f=>rfl) (fun m f hf=>fI m.1 19 (hf 12 _ rfl rfl)) ?_
   simp only [Act.put,YG,YI,YH]
   repeat (refine Gd.aC rfl fun K hK=>?_;go_big_quiet_op;refine hK _ ?_;clear hK K)
   refine Gd.bD (Gd.gR rfl) (GI [r.num]) (iK _) (fun _=>[(0,.int .i64 r.num)]) rfl rfl rfl rfl rfl (fun _=>rfl) (fun m f hf=>⟨_,_,(by go_simp:(Instr.buildSlice 41 1 [(0,.int .i64 r.num)].toArray).run Tryz.prog m.1=.ok (.slice (some ⟨m.1.heap.size,0,none⟩) 1 1) (m.1.alloc (.cells #[.int .i64 r.num] 3))),(Below.refl _ _).alloc (YF _) _,pN m.1 #[.int .i64 r.num] [r.num] 1 rfl (by omega) rfl⟩) ?_
   simp only [Act.put,YG,YI,YH]
   refine Gd.aR (Gd.gR rfl) (GS ww.heap.size (be4 r.num)) (bP _ _) (fun f=>[.int .i64 4,f 16]) rfl rfl rfl rfl rfl (by kernel_rfl) rfl (fun f=>rfl) (fun m f hf=>(iY 4 m.1 (hf 16 _ rfl rfl) (by omega) (by simp)).mono fun _ _ h=>(qN r.num ▸ h:gC _ _ _ _).gs (BB m)) ?_
   simp only [Act.put,YG,YI,YH]
   refine Gd.bW (Gd.gR rfl) (NdG ww.heap.size 0 (bC 130 (be4 r.num))) (bF _ _ _) (fun f=>[(0,.int .i64 130),(1,f 17)]) rfl rfl rfl rfl rfl (fun f=>rfl) (fun m f hf=>fI m.1 130 (hf 17 _ rfl rfl)) ?_
   simp only [Act.put,YG,YI,YH]
   repeat (refine Gd.aC rfl fun K hK=>?_;go_big_quiet_op;refine hK _ ?_;clear hK K)
   refine Gd.bD (Gd.gR rfl) (GI [r.iss]) (iK _) (fun _=>[(0,.int .i64 r.iss)]) rfl rfl rfl rfl rfl (fun _=>rfl) (fun m f hf=>⟨_,_,(by go_simp:(Instr.buildSlice 41 1 [(0,.int .i64 r.iss)].toArray).run Tryz.prog m.1=.ok (.slice (some ⟨m.1.heap.size,0,none⟩) 1 1) (m.1.alloc (.cells #[.int .i64 r.iss] 3))),(Below.refl _ _).alloc (YF _) _,pN m.1 #[.int .i64 r.iss] [r.iss] 1 rfl (by omega) rfl⟩) ?_
   simp only [Act.put,YG,YI,YH]
   refine Gd.aR (Gd.gR rfl) (GS ww.heap.size (be4 r.iss)) (bP _ _) (fun f=>[.int .i64 4,f 21]) rfl rfl rfl rfl rfl (by kernel_rfl) rfl (fun f=>rfl) (fun m f hf=>(iY 4 m.1 (hf 21 _ rfl rfl) (by omega) (by simp)).mono fun _ _ h=>(qN r.iss ▸ h:gC _ _ _ _).gs (BB m)) ?_
   simp only [Act.put,YG,YI,YH]
   refine Gd.bW (Gd.gR rfl) (NdG ww.heap.size 0 (bC 131 (be4 r.iss))) (bF _ _ _) (fun f=>[(0,.int .i64 131),(1,f 22)]) rfl rfl rfl rfl rfl (fun f=>rfl) (fun m f hf=>fI m.1 131 (hf 22 _ rfl rfl)) ?_
   simp only [Act.put,YG,YI,YH]
   repeat (refine Gd.aC rfl fun K hK=>?_;go_big_quiet_op;refine hK _ ?_;clear hK K)
   refine Gd.bD (Gd.gR rfl) (GI [r.day,r.nxt]) (iK _) (fun _=>[(0,.int .i64 r.day),(1,.int .i64 r.nxt)]) rfl rfl rfl rfl rfl (fun _=>rfl) (fun m f hf=>⟨_,_,(by go_simp:(Instr.buildSlice 41 2 [(0,.int .i64 r.day),(1,.int .i64 r.nxt)].toArray).run Tryz.prog m.1=.ok (.slice (some ⟨m.1.heap.size,0,none⟩) 2 2) (m.1.alloc (.cells #[.int .i64 r.day,.int .i64 r.nxt] 3))),(Below.refl _ _).alloc (YF _) _,pN m.1 #[.int .i64 r.day,.int .i64 r.nxt] [r.day,r.nxt] 2 rfl (by omega) rfl⟩) ?_
   simp only [Act.put,YG,YI,YH]
   refine Gd.aR (Gd.gR rfl) (GS ww.heap.size (be3 r.day++be3 r.nxt)) (bP _ _) (fun f=>[.int .i64 3,f 28]) rfl rfl rfl rfl rfl (by kernel_rfl) rfl (fun f=>rfl) (fun m f hf=>(iY 3 m.1 (hf 28 _ rfl rfl) (by omega) (by simp)).mono fun _ _ h=>(SW r.day r.nxt ▸ h:gC _ _ _ _).gs (BB m)) ?_
   simp only [Act.put,YG,YI,YH]
   refine Gd.bW (Gd.gR rfl) (NdG ww.heap.size 0 (bC 134 (be3 r.day++be3 r.nxt))) (bF _ _ _) (fun f=>[(0,.int .i64 134),(1,f 29)]) rfl rfl rfl rfl rfl (fun f=>rfl) (fun m f hf=>fI m.1 134 (hf 29 _ rfl rfl)) ?_
   simp only [Act.put,YG,YI,YH]
   repeat (refine Gd.aC rfl fun K hK=>?_;go_big_quiet_op;refine hK _ ?_;clear hK K)
   refine Gd.aR (Gd.gR rfl) (GS ww.heap.size (eW 4 r.ser)) (bP _ _) (fun _=>[.int .i64 4,.slice A r.ser.length c]) rfl rfl rfl rfl rfl (by kernel_rfl) rfl (fun f=>rfl) (fun m f hf=>(iY 4 m.1 (VB m) (by omega) (by omega)).mono fun _ _ h=>h.gs (BB m)) ?_
   simp only [Act.put,YG,YI,YH]
   refine Gd.bW (Gd.gR rfl) (NdG ww.heap.size 0 (bC 136 (eW 4 r.ser))) (bF _ _ _) (fun f=>[(0,.int .i64 136),(1,f 33)]) rfl rfl rfl rfl rfl (fun f=>rfl) (fun m f hf=>fI m.1 136 (hf 33 _ rfl rfl)) ?_
   simp only [Act.put,YG,YI,YH]
   refine Gd.bD (Gd.gR rfl) (vT ww.heap.size 1 (fT r).kids) (iV _ _ _) (fun f=>[(0,f 13),(1,f 18),(2,f 23),(3,f 30),(4,f 34)]) rfl rfl rfl rfl rfl (fun f=>rfl) (fun m f hf=>GM m.1 (BB m) (hf 13 _ rfl rfl) (hf 18 _ rfl rfl) (hf 23 _ rfl rfl) (hf 30 _ rfl rfl) (hf 34 _ rfl rfl)) ?_
   simp only [Act.put,YG,YI,YH]
   refine Gd.bW (Gd.gR rfl) (NdG ww.heap.size 1 (fT r)) (bF _ _ _) (fun f=>[(0,.int .i64 49),(2,f 35)]) rfl rfl rfl rfl rfl (fun f=>rfl) (fun m f hf=>vU m.1 49 (hf 35 _ rfl rfl)) ?_
   simp only [Act.put,YG,YI,YH]
   refine Gd.bD (Gd.gR rfl) (vT ww.heap.size 2 [fT r]) (iV _ _ _) (fun f=>[(0,f 36)]) rfl rfl rfl rfl rfl (fun f=>rfl) (fun m f hf=>G6 m.1 (BB m) (hf 36 _ rfl rfl)) ?_
   simp only [Act.put,YG,YI,YH]
   refine Gd.aR (Gd.gR rfl) (PBs (dK r)) (GK _) (fun f=>[f 37]) rfl rfl rfl rfl rfl (by kernel_rfl) rfl (fun f=>rfl) (fun m f hf=>GL (yV (d:=2) (ts:=[fT r]) m.1 (zG r) (gN.rd (hf 37 _ rfl rfl)) (by omega) (wS r) (tL HK.out))) ?_
   simp only [Act.put,YG,YI,YH]
   refine Gd.dL (Gd.gR rfl) (GBs (dK r)) (wU _) (fun f=>f 38) rfl rfl rfl rfl rfl (fun f=>rfl) (fun m f hf=>PF (hf 38 _ rfl rfl)) ?_
   simp only [Act.put,YG,YI,YH]
   refine Gd.dL (Gd.gR rfl) (fun v _=>v=.int .i64 0) (fun _ _ _ _ h=>h) (fun f=>f 38) rfl rfl rfl rfl rfl (fun f=>rfl) (fun m f hf=>PG (hf 38 _ rfl rfl)) ?_
   simp only [Act.put,YG,YI,YH]
   refine Gd.jQ (Gd.gR rfl) (GBs (dK r)) (wU _) (fun f=>f 39) rfl rfl rfl rfl rfl (fun f=>rfl) (fun m f hf=>hf 39 _ rfl rfl) ?_
   simp only [Act.put,YG,YI,YH]
   refine Gd.jQ (Gd.gR rfl) (fun v _=>v=.int .i64 0) (fun _ _ _ _ h=>h) (fun f=>f 40) rfl rfl rfl rfl rfl (fun f=>rfl) (fun m f hf=>hf 40 _ rfl rfl) ?_
   simp only [Act.put,YG,YI,YH]
   refine Gd.cH (fun m f hf=>?_)
   obtain ⟨A1,n1,c1,e2,hn1,k1⟩:=hf 2 (GBs (dK r)) rfl
   have e3:=hf 3 (fun v _=>v=.int .i64 0) rfl
   simp only [bO]
   simp only [Act.put,YG,YI,YH]
   rw [e2,e3]
   have K1:=ZH k1
   have Lm:=LL m
   have xm:=x1.tr Lm
   obtain ⟨wy,hwy⟩:=m
   clear LL BB VB v0 v1 v2 v3 v4 v5 hf e2 e3 k1
   show wpList _ _ _ _ _ _
   go_wp2_with fail
   go_ret2
   rw [HB.out,HK.out]
   exact ⟨_,_,_,rfl,hn1,K1.out,xm⟩
 · have hb:(ckR r != 0)=true:=by simpa using hc
   have HB:=ZH (show byR r=[] from if_neg hc)
   clear hc
   go_wp2_with fail
   go_ret2
   rw [HB.out]
   exact ⟨_,_,_,rfl,(show _=_ from rfl),Rd.nil_ _,x1⟩
def bY:RV:=⟨[],0,0,0,[],0,0,0⟩
section
variable {w w':World}{g:Nat}{r:RV}{v:Value}
theorem bM.cells (h:bM w g r v):w.cell? ⟨g,0,none⟩=some (.string (aK r.st))/\w.cell? ⟨g,1,none⟩=some (.int .i64 r.num)/\w.cell? ⟨g,2,none⟩=some (.int .i64 r.day)/\w.cell? ⟨g,3,none⟩=some (.int .i64 r.nxt)/\w.cell? ⟨g,4,none⟩=some v/\w.cell? ⟨g,5,none⟩=some (.int .i64 r.iss)/\w.cell? ⟨g,6,none⟩=some (.int .i64 r.e)/\w.cell? ⟨g,7,none⟩=some (.int .i64 r.s) :=
 ⟨h.c0,h.c1,h.c2,h.c3,h.c4,h.c5,h.c6,h.c7⟩
theorem bM.new (w:World) (r:RV) (v:Value):bM (w.alloc (.cells #[.string (aK r.st),.int .i64 r.num,.int .i64 r.day,.int .i64 r.nxt,v,.int .i64 r.iss,.int .i64 r.e,.int .i64 r.s] 103)) w.heap.size r v:=aB w _
theorem bM.other {b i:Nat}{u:Value} (h:bM w g r v) (hne:g≠b):bM (w.setCell ⟨b,i,none⟩ u) g r v:=(aT hne).trans h
theorem bM.setSig (h:bM w g r v) (e s:Int):bM ((w.setCell ⟨g,6,none⟩ (.int .i64 e)).setCell ⟨g,7,none⟩ (.int .i64 s)) g ⟨r.st,r.num,r.day,r.nxt,r.ser,r.iss,e,s⟩ v:=by
 have h9:=aF (aF h 6 (.int .i64 e)) 7 (.int .i64 s)
 simp only [YG,YI,YH] at h9
 exact h9
end
abbrev GN (w:World) (g:Nat) (v0 v1 v2 v3 v4 v5 v6 v7:Value):World:=((((((((w.setCell ⟨g,0,none⟩ v0).setCell ⟨g,1,none⟩ v1).setCell ⟨g,2,none⟩ v2).setCell ⟨g,3,none⟩ v3).setCell ⟨g,4,none⟩ v4).setCell ⟨g,5,none⟩ v5).setCell ⟨g,6,none⟩ v6).setCell ⟨g,7,none⟩ v7)
abbrev setR (w:World) (g:Nat) (d:RV) (u:Value):World:=GN w g (.string (aK d.st)) (.int .i64 d.num) (.int .i64 d.day) (.int .i64 d.nxt) u (.int .i64 d.iss) (.int .i64 d.e) (.int .i64 d.s)
theorem bM.setR {w:World}{g:Nat}{r:RV}{v:Value} (h:bM w g r v) (d:RV) (u:Value):bM (setR w g d u) g d u:=by
 have h9:=(aF (aF (aF (aF (aF (aF (aF (aF h 0 (.string (aK d.st))) 1 (.int .i64 d.num)) 2 (.int .i64 d.day)) 3 (.int .i64 d.nxt)) 4 u) 5 (.int .i64 d.iss)) 6 (.int .i64 d.e)) 7 (.int .i64 d.s))
 simp only [YG,YI,YH] at h9
 exact h9
theorem lK {w w':World}{g:Nat} (h:Ext w w') (hg:w.heap.size<=g) (d:RV) (u:Value):Ext w (setR w' g d u) :=
 aG (aG (aG (aG (aG (aG (aG (aG h hg) hg) hg) hg) hg) hg) hg) hg
structure T0 (w wz:World) (r:RV) (v:Value):Prop where
 ext:Ext w wz
 c:bM wz w.heap.size r v
 r:bM wz (w.heap.size+1) bY (.slice none 0 0)
theorem wV (w:World) (r:RV) (v:Value):∃ wz,wz=(w.alloc (.cells #[.string (aK r.st),.int .i64 r.num,.int .i64 r.day,.int .i64 r.nxt,v,.int .i64 r.iss,.int .i64 r.e,.int .i64 r.s] 103)).alloc (.cells #[.string ⟨#[]⟩,.int .i64 0,.int .i64 0,.int .i64 0,.slice none 0 0,.int .i64 0,.int .i64 0,.int .i64 0] 103)/\T0 w wz r v:=by
 have e1:Ext w (w.alloc (.cells #[.string (aK r.st),.int .i64 r.num,.int .i64 r.day,.int .i64 r.nxt,v,.int .i64 r.iss,.int .i64 r.e,.int .i64 r.s] 103)):=(Below.refl _ _).alloc (YF _) _
 refine ⟨_,rfl,e1.alloc (by simp) _,(bM.new w r v).ext ((Below.refl _ _).alloc (YF _) _),?_⟩
 have:=bM.new (w.alloc (.cells #[.string (aK r.st),.int .i64 r.num,.int .i64 r.day,.int .i64 r.nxt,v,.int .i64 r.iss,.int .i64 r.e,.int .i64 r.s] 103)) bY (.slice none 0 0)
 rw [show (w.alloc (.cells #[.string (aK r.st),.int .i64 r.num,.int .i64 r.day,.int .i64 r.nxt,v,.int .i64 r.iss,.int .i64 r.e,.int .i64 r.s] 103)).heap.size=w.heap.size+1 by simp] at this
 exact this
theorem T0.tr {w wz wy:World}{r:RV}{v:Value} (h:T0 w wz r v) (e:Ext wz wy):T0 w wy r v:=⟨h.ext.tr e,h.c.ext e,h.r.ext e⟩
theorem Own.setLow {w:World}{B g i:Nat}{e:TypeId}{v u:Value}{xs:List Value} (h:Own w B e v xs) (hg:g<B):Own (w.setCell ⟨g,i,none⟩ u) B e v xs:=by
 obtain ⟨A,n,c,rfl,hn,h | ⟨b,cur,rfl,hB,hb,hr⟩⟩:=h
 · exact ⟨A,n,c,rfl,hn,.inl h⟩
 · exact ⟨_,n,c,rfl,hn,.inr ⟨b,cur,rfl,hB,(aT (by omega)).trans hb,hr⟩⟩
theorem E8 (w:World) (A:Option Addr) (n c:Nat):(binOp .eql 41 (.slice A n c) (.slice none 0 0)).run Tryz.prog w=.ok (.bool A.isNone) w:=Lib.run_eql_slice_nil w _ 3 A n c 0 0 Tryz.underlying41
set_option maxHeartbeats 1000000 in
theorem GO {a:Value}{l:List Int} (w:World) (ha:RdI w .i64 a l) (hl:l.length<=1000000):Calls Tryz.prog 227 #[a] w fun e w'=>∃ A n c,e=.returned (.slice A n c)/\Own w' w.heap.size 3 (.slice A n c) (l.map (Value.int .i64))/\Ext w w':=by
 have ha0:=ha
 obtain ⟨A,n,c,rfl,hn,hnc,hcm,hA⟩:=ha.ints
 subst hn
 have hcm2:=hcm
 unfold maxLen at hcm
 have h1:∀ u ∈ l.map (Value.int .i64),u.oneCell'=true:=by
  intro u hu
  obtain ⟨x,_,rfl⟩:=List.mem_map.1 hu
  rfl
 cases A with
 | none =>
   have h0:l=[]:=by
    by_cases h:0<l.length
    · obtain ⟨b,o,e,_⟩:=hA h;cases e
    · exact ZB (by omega)
   subst h0
   clear hA ha ha0
   have hq:=fun w=>E8 w none 0 c
   go_enter Tryz.func227,Tryz.ntmps227
   go_wp2
   go_ret
   exact ⟨_,_,_,rfl,Own.nil_ _ _ _,Below.refl _ _⟩
 | some ad =>
   clear hA ha
   have hq:=fun w=>E8 w (some ad) l.length c
   have e6:Ext w (w.alloc (.cells #[] 3)):=(Below.refl _ _).alloc (YF _) _
   go_enter Tryz.func227,Tryz.ntmps227
   go_wp2_with (refine gM (B:=w.heap.size) (w0:=w) wG (Own.empty _ _ _ _) (Rd.ext ha0 e6) h1 e6 (by simp;omega) (by unfold maxLen;simp;omega) e6.size rfl rfl rfl rfl ?_;intro A2 c2 w2 o2 b2 g2)
   simp only [ZA,YN,List.length_map,YR] at o2
   go_ret
   exact ⟨_,_,_,rfl,o2,b2⟩
set_option maxHeartbeats 4000000 in
theorem E9 (r:RV) (v:Value) (w:World) (hv:RdI w .i64 v r.ser) (hl:r.ser.length<=1000000):Calls Tryz.prog 160 #[rvV r v] w fun e w'=>∃ A n c,e=.returned (rvV r (.slice A n c))/\Own w' w.heap.size 3 (.slice A n c) (r.ser.map (Value.int .i64))/\Ext w w':=by
 obtain ⟨wz,hwz,T⟩:=wV w r v
 have HR:=ZH (hv.ext T.ext)
 obtain ⟨A,n,c,rfl,hn,hnc,hcm,hel⟩:=hv.ints
 clear hel hv
 unfold rvV
 go_enter Tryz.func160,Tryz.ntmps160
 subst hn
 go_wp2_with fail
 rw [<- hwz]
 clear hwz
 refine (GO _ HR.out hl).mono ?_
 rintro e w1 ⟨A1,n1,c1,rfl,o1,b1⟩
 have T1:=T.tr b1
 have hz:w.heap.size+1<wz.heap.size:=T.r.lt
 clear T
 have O1:=ZH o1
 clear o1 HR
 have f4:=T1.c.frozen 4
 have hl0:=T1.c.lt
 have hlr:=T1.r.lt
 obtain ⟨t0,t1,t2,t3,t4,t5,t6,t7⟩:=T1.c.cells
 obtain ⟨r0,r1,r2,r3,r4,r5,r6,r7⟩:=T1.r.cells
 have g0:=T1.r.frozen 0
 have g1:=T1.r.frozen 1
 have g2:=T1.r.frozen 2
 have g3:=T1.r.frozen 3
 have g4:=T1.r.frozen 4
 have g5:=T1.r.frozen 5
 have g6:=T1.r.frozen 6
 have g7:=T1.r.frozen 7
 go_wp2_with fail
 have TR:=T1.r.other (b:=w.heap.size) (i:=4) (u:=.slice A1 n1 c1) (by omega)
 have TZ:bM (GN (w1.setCell ⟨w.heap.size,4,none⟩ (.slice A1 n1 c1)) (w.heap.size+1) (.string (aK r.st)) (.int .i64 r.num) (.int .i64 r.day) (.int .i64 r.nxt) (.slice A1 n1 c1) (.int .i64 r.iss) (.int .i64 r.e) (.int .i64 r.s)) (w.heap.size+1) r (.slice A1 n1 c1):=TR.setR r (.slice A1 n1 c1)
 have OZ:=ZH (show Own (GN (w1.setCell ⟨w.heap.size,4,none⟩ (.slice A1 n1 c1)) (w.heap.size+1) (.string (aK r.st)) (.int .i64 r.num) (.int .i64 r.day) (.int .i64 r.nxt) (.slice A1 n1 c1) (.int .i64 r.iss) (.int .i64 r.e) (.int .i64 r.s)) wz.heap.size 3 (.slice A1 n1 c1) (r.ser.map (Value.int .i64)) from
  ((((((((O1.out.setLow (by omega)).setLow hz).setLow hz).setLow hz).setLow hz).setLow hz).setLow hz).setLow hz).setLow hz)
 refine bodyPost_ret (v:=rvV r (.slice A1 n1 c1)) ?_ rfl ⟨A1,n1,c1,rfl,OZ.out.mono (by omega),lK (aG T1.ext (YF _)) (by omega) r (.slice A1 n1 c1)⟩
 obtain ⟨q0,q1,q2,q3,q4,q5,q6,q7⟩:=TZ.cells
 clear r0 r1 r2 r3 r4 r5 r6 r7 t0 t1 t2 t3 t4 t5 t6 t7
 simp [results,Tryz.results160,go_sem,rvV,q0,q1,q2,q3,q4,q5,q6,q7]
def RdV (w:World) (v:Value) (l:List RV):Prop :=
 ∃ A n c,v=.slice A n c/\n=l.length/\n<=c/\c<=maxLen/\∀ (i:Nat) (r:RV),l[i]?=some r->∃ b o,A=some ⟨b,o,none⟩/\b<w.heap.size/\∃ (A':Option Addr) (n' c':Nat),w.cell? ⟨b,o+i*8,none⟩=some (.string (aK r.st))/\w.cell? ⟨b,o+i*8+1,none⟩=some (.int .i64 r.num)/\w.cell? ⟨b,o+i*8+2,none⟩=some (.int .i64 r.day)/\w.cell? ⟨b,o+i*8+3,none⟩=some (.int .i64 r.nxt)/\w.cell? ⟨b,o+i*8+4,none⟩=some (.slice A' n' c')/\w.cell? ⟨b,o+i*8+5,none⟩=some (.int .i64 r.iss)/\w.cell? ⟨b,o+i*8+6,none⟩=some (.int .i64 r.e)/\w.cell? ⟨b,o+i*8+7,none⟩=some (.int .i64 r.s)/\RdI w .i64 (.slice A' n' c') r.ser
theorem RdV.ext {w w':World}{v:Value}{l:List RV} (h:RdV w v l) (e:Ext w w'):RdV w' v l:=by
 obtain ⟨A,n,c,rfl,hn,hnc,hcm,hc⟩:=h
 refine ⟨A,n,c,rfl,hn,hnc,hcm,fun i r hr=>?_⟩
 obtain ⟨b,o,rfl,hb,A',n',c',k0,k1,k2,k3,k4,k5,k6,k7,hs⟩:=hc i r hr
 exact ⟨b,o,rfl,YX hb e.size,A',n',c',(e.cell hb).trans k0,(e.cell hb).trans k1,(e.cell hb).trans k2,(e.cell hb).trans k3,(e.cell hb).trans k4,(e.cell hb).trans k5,(e.cell hb).trans k6,(e.cell hb).trans k7,hs.ext e⟩
def plV (l:List RV) (st:List UInt8):Int:=match l.findIdx? (fun t=>decide (t.st=st)) with
 | none=>-1
 | some i=>(i:Int)
theorem PH {l:List RV}{st:List UInt8}{j:Nat}{t:RV} (ht:l[j]?=some t) (hp:(decide (t.st=st))=true) (hlt:∀ i u,i<j->l[i]?=some u->(decide (u.st=st))=false):plV l st=(j:Int):=by
 have hj:=(List.getElem?_eq_some_iff.1 ht).1
 unfold plV
 have:l.findIdx? (fun t=>decide (t.st=st))=some j:=by
  rw [List.findIdx?_eq_some_iff_getElem]
  refine ⟨hj,?_,fun i hi=>?_⟩
  · rw [YL hj] at ht
    rw [Option.some.inj ht];exact hp
  · have:=hlt i _ hi (YL (by omega))
    simpa using this
 rw [this]
theorem PI {l:List RV}{st:List UInt8} (hlt:∀ (i:Nat) u,l[i]?=some u->(decide (u.st=st))=false):plV l st=-1:=by
 unfold plV
 have:l.findIdx? (fun t=>decide (t.st=st))=none:=by
  rw [List.findIdx?_eq_none_iff]
  intro u hu
  obtain ⟨i,hi⟩:=List.mem_iff_getElem?.1 hu
  exact hlt i u hi
 rw [this]
theorem EA (st:List UInt8) (g:Nat) (r:RV) (A:Option Addr) (n c:Nat) (w:World) (hg:w.cell? ⟨g,0,none⟩=some (.string (aK st))) :
 Calls Tryz.prog 226 #[rvV r (.slice A n c),.pointer (some ⟨g,0,none⟩)] w (dR w (.bool (decide (r.st=st)))):=by
 have hl:=World.block_lt_of_cell? w _ hg
 unfold rvV
 go_enter Tryz.func226,Tryz.ntmps226
 go_wp2
 go_ret
 exact ⟨by show Ending.returned (Value.bool _)=_;rw [gJ],(Below.refl _ _).alloc (YF _) _⟩
set_option maxHeartbeats 2000000 in
theorem EB {v:Value}{l:List RV} (st:List UInt8) (g:Nat) (w:World) (hr:RdV w v l) (hg:w.cell? ⟨g,0,none⟩=some (.string (aK st))) :
 Calls Tryz.prog 225 #[v,.func (.func 226) #[] #[.pointer (some ⟨g,0,none⟩)]] w (dR w (.int .i64 (plV l st))):=by
 obtain ⟨A,n,c,rfl,hn,hnc,hcm,hel⟩:=hr
 subst hn
 unfold maxLen at hcm
 have hgl:=World.block_lt_of_cell? w _ hg
 have HE:=ZH hel
 clear hel
 obtain ⟨r,hr⟩:∃ r,plV l st=r:=⟨_,rfl⟩
 rw [hr]
 have HR:=ZH hr
 clear hr
 have HF:=ZH (fun t A1 n1 c1 (W:World) (h:Ext w W)=>EA st g t A1 n1 c1 W ((h.cell (p:=⟨g,0,none⟩) hgl).trans hg))
 clear hg
 go_enter Tryz.func225,Tryz.ntmps225
 go_wp2
 go_loopw [5,8] (fun _ i wr=>∃ j:Nat,j<=l.length/\i=.int .i64 (j:Int)/\Ext w wr/\Hid (∀ i u,i<j->l[i]?=some u->(decide (u.st=st))=false)) (fun _ i _=>l.length - (intOf i).toNat)
 case atStart=>exact ⟨0,YK _,rfl,Below.refl _ _,ZH (fun i u h=>by omega)⟩
 case round =>
  obtain ⟨j,hj,rfl,bb,hlt0⟩:=hrel
  by_cases hlt:j<l.length
  · obtain ⟨t,ht⟩:∃ t,l[j]?=some t:=⟨_,YL hlt⟩
    obtain ⟨b,o,rfl,hbl,A1,n1,c1,e0,e1,e2,e3,e4,e5,e6,e7,hs⟩:=HE.out j t ht
    have l0:=(bb.cell (p:=⟨b,o+j*8,none⟩) hbl).trans e0
    have l1:=(bb.cell (p:=⟨b,o+j*8+1,none⟩) hbl).trans e1
    have l2:=(bb.cell (p:=⟨b,o+j*8+2,none⟩) hbl).trans e2
    have l3:=(bb.cell (p:=⟨b,o+j*8+3,none⟩) hbl).trans e3
    have l4:=(bb.cell (p:=⟨b,o+j*8+4,none⟩) hbl).trans e4
    have l5:=(bb.cell (p:=⟨b,o+j*8+5,none⟩) hbl).trans e5
    have l6:=(bb.cell (p:=⟨b,o+j*8+6,none⟩) hbl).trans e6
    have l7:=(bb.cell (p:=⟨b,o+j*8+7,none⟩) hbl).trans e7
    have HT:=ZH ht
    clear e0 e1 e2 e3 e4 e5 e6 e7 hs ht
    have wi1:IntKind.i64.wrap ((j:Int))=(j:Int):=IntWalk.i64_in _ (by omega)
    have zi1:(0:Int)<=(j:Int):=by omega
    have li1:(j:Int)<(l.length:Int):=by omega
    have ti1:((j:Int)).toNat=j:=by omega
    go_wp2_with fail
    refine (HF.out t A1 n1 c1 _ bb).mono ?_
    rintro e wy ⟨rfl,by_⟩
    cases hq:(decide (t.st=st)) with
    | true =>
      have HN:=ZH (show r=(j:Int) by rw [<- HR.out];exact PH HT.out hq hlt0.out)
      clear hq
      go_wp2_with fail
      go_ret
      exact ⟨by rw [HN.out];rfl,bb.tr by_⟩
    | false =>
      have HQ:=ZH hq
      clear hq
      go_wp2_with fail
      go_roundw
      case rel=>exact ⟨j+1,by omega,by go_num,bb.tr by_,ZH (fun i u hi hu=>by
       by_cases h:i=j
       · subst h
         rw [HT.out] at hu
         rw [<- Option.some.inj hu];exact HQ.out
       · exact hlt0.out i u (by omega) hu)⟩
      case measure=>simp [intOf];omega
  · obtain rfl:j=l.length:=by omega
    have HN:=ZH (show r=-1 by rw [<- HR.out];exact PI fun i u hu=>hlt0.out i u (List.getElem?_eq_some_iff.1 hu).1 hu)
    go_wp2
    go_ret
    exact ⟨by rw [HN.out];rfl,bb⟩
abbrev SlT:=Option Addr × Nat × Nat
abbrev stO (s0 s1 s2 s3 s4:SlT):Obj:=.cells #[.slice s0.1 s0.2.1 s0.2.2,.slice s1.1 s1.2.1 s1.2.2,.slice s2.1 s2.2.1 s2.2.2,.slice s3.1 s3.2.1 s3.2.2,.slice s4.1 s4.2.1 s4.2.2] 75
def slV (s:SlT):Value:=.slice s.1 s.2.1 s.2.2
def bH (s0 s1 s2 s3 s4:SlT):Value:=.agg #[.slice s0.1 s0.2.1 s0.2.2,.slice s1.1 s1.2.1 s1.2.2,.slice s2.1 s2.2.1 s2.2.2,.slice s3.1 s3.2.1 s3.2.2,.slice s4.1 s4.2.1 s4.2.2]
set_option maxHeartbeats 1000000 in
theorem sJ (s0 s1 s2 s3 s4:SlT) (l:List RV) (st:List UInt8) (w:World) (h:RdV w (slV s3) l):Calls Tryz.prog 159 #[bH s0 s1 s2 s3 s4,.string (aK st)] w (dR w (.int .i64 (plV l st))):=by
 obtain ⟨wz,hwz⟩:∃ wz,wz=(w.alloc (stO s0 s1 s2 s3 s4)).alloc (.cells #[.string (aK st)] 9):=⟨_,rfl⟩
 have e1:Ext w (w.alloc (stO s0 s1 s2 s3 s4)):=(Below.refl _ _).alloc (YF _) _
 have ez:Ext w wz:=by rw [hwz];exact e1.alloc (by simp) _
 have hg:wz.cell? ⟨w.heap.size+1,0,none⟩=some (.string (aK st)):=by
  have:((w.alloc (stO s0 s1 s2 s3 s4)).alloc (.cells #[.string (aK st)] 9)).heap[(w.alloc (stO s0 s1 s2 s3 s4)).heap.size]?=some (.cells #[.string (aK st)] 9 (0,0)):=aB _ _
  rw [show (w.alloc (stO s0 s1 s2 s3 s4)).heap.size=w.heap.size+1 by simp] at this
  rw [hwz,cell_of_row _ _ 0 _ _ _ this];rfl
 have HV:=ZH (h.ext ez)
 have HG:=ZH hg
 clear h e1 hg
 have EZ:=ZH ez
 clear ez
 unfold bH
 go_enter Tryz.func159,Tryz.ntmps159
 go_wp2_with fail
 rw [<- hwz]
 clear hwz
 refine (EB (v:=slV s3) st (w.heap.size+1) wz HV.out HG.out).mono ?_
 rintro e w2 ⟨rfl,b2⟩
 go_wp2_with fail
 go_ret
 exact ⟨rfl,EZ.out.tr b2⟩
def ofR (l:List RV) (st:List UInt8):Option RV:=l.find? fun t=>decide (t.st=st)
theorem zH (l:List RV) (st:List UInt8):(plV l st=-1/\ofR l st=none) \/ ∃ (j:Nat) (r:RV),plV l st=(j:Int)/\l[j]?=some r/\ofR l st=some r:=by
 unfold plV ofR
 cases h:l.findIdx? (fun t=>decide (t.st=st)) with
 | none =>
   refine .inl ⟨rfl,?_⟩
   rw [List.findIdx?_eq_none_iff] at h
   rw [List.find?_eq_none]
   intro x hx;rw [h x hx];simp
 | some j =>
   obtain ⟨hj,hp,hlt⟩:=List.findIdx?_eq_some_iff_getElem.1 h
   refine .inr ⟨j,l[j],rfl,YL hj,?_⟩
   rw [List.find?_eq_some_iff_getElem]
   exact ⟨hp,j,hj,rfl,fun i hi=>by simpa using hlt i hi⟩
def frR (l:List RV) (st:List UInt8) (day:Int):Bool:=match ofR l st with
 | none=>false
 | some r=>decide (day<=r.nxt)
set_option maxHeartbeats 2000000 in
theorem sL (s0 s1 s2 s3 s4:SlT) (l:List RV) (st:List UInt8) (day:Int) (w:World) (h:RdV w (slV s3) l):Calls Tryz.prog 72 #[bH s0 s1 s2 s3 s4,.string (aK st),.int .i64 day] w (dR w (.bool (frR l st day))):=by
 obtain ⟨wz,hwz⟩:∃ wz,wz=(w.alloc (stO s0 s1 s2 s3 s4)):=⟨_,rfl⟩
 have ez:Ext w wz:=by rw [hwz];exact (Below.refl _ _).alloc (YF _) _
 have hz:wz.heap[w.heap.size]?=some (.cells #[.slice s0.1 s0.2.1 s0.2.2,.slice s1.1 s1.2.1 s1.2.2,.slice s2.1 s2.2.1 s2.2.2,.slice s3.1 s3.2.1 s3.2.2,.slice s4.1 s4.2.1 s4.2.2] 75 (0,0)):=by rw [hwz];exact aB w _
 have HP:=ZH (fun W (e:Ext w W)=>sJ s0 s1 s2 s3 s4 l st W (h.ext e))
 have HR:=ZH h
 clear h
 have EZ:=ZH ez
 have HZ:=ZH hz
 clear ez hz
 unfold bH at HP ⊢
 go_enter Tryz.func72,Tryz.ntmps72
 go_wp2_with fail
 rw [<- hwz]
 clear hwz
 refine (HP.out wz EZ.out).mono ?_
 rintro e w2 ⟨rfl,b2⟩
 have X2:=ZH (EZ.out.tr b2)
 have hb2:=(b2.block _ (aA HZ.out)).trans HZ.out
 have c3:w2.cell? ⟨w.heap.size,3,none⟩=some (.slice s3.1 s3.2.1 s3.2.2):=by rw [cell_of_row _ _ 3 _ _ _ hb2];rfl
 have cl:=aA hb2
 clear hb2
 rcases zH l st with ⟨hp,hf⟩ | ⟨j,r,hp,hj,hf⟩
 · have HF:=ZH (show frR l st day=false by unfold frR;rw [hf])
   rw [hp]
   clear hp hf
   go_wp2_with fail
   go_ret
   exact ⟨by rw [HF.out];rfl,X2.out⟩
 · have HF:=ZH (show frR l st day=decide (day<=r.nxt) by unfold frR;rw [hf])
   rw [hp]
   clear hp hf
   obtain ⟨A,n,c,hs,hn,hnc,hcm,hel⟩:=HR.out
   unfold slV at hs
   injection hs with hs1 hs2 hs3
   rw [hs1,hs2,hs3] at c3
   have hlt:=(List.getElem?_eq_some_iff.1 hj).1
   obtain ⟨b,o,rfl,hbl,A1,n1,c1,e0,e1,e2,e3,e4,e5,e6,e7,hser⟩:=hel j r hj
   have l3:=(X2.out.cell (p:=⟨b,o+j*8+3,none⟩) hbl).trans e3
   clear e0 e1 e2 e3 e4 e5 e6 e7 hser hel hj
   subst hn
   unfold maxLen at hcm
   have wi1:IntKind.i64.wrap ((j:Int))=(j:Int):=IntWalk.i64_in _ (by omega)
   have zi1:(0:Int)<=(j:Int):=by omega
   have li1:(j:Int)<(l.length:Int):=by omega
   have ti1:((j:Int)).toNat=j:=by omega
   go_wp2_with fail
   go_ret
   exact ⟨by rw [HF.out];rfl,X2.out⟩
set_option maxHeartbeats 2000000 in
theorem GP {v:Value}{l:List Int} (x:Int) (w:World) (hv:RdI w .i64 v l) :
 Calls Tryz.prog 229 #[v,.int .i64 x] w fun e w'=>∃ k:Int,e=.returned (.int .i64 k)/\decide (0<=k)=decide (x ∈ l)/\Ext w w':=by
 obtain ⟨A,n,c,rfl,hn,hnc,hcm,hel⟩:=hv.ints
 subst hn
 unfold maxLen at hcm
 have HE:=ZH hel
 clear hv hel
 go_enter Tryz.func229,Tryz.ntmps229
 go_wp2
 go_loopw [5,8] (fun _ i wr=>∃ j:Nat,j<=l.length/\i=.int .i64 (j:Int)/\Ext w wr/\Hid (∀ i u,i<j->l[i]?=some u->u≠x)) (fun _ i _=>l.length - (intOf i).toNat)
 case atStart=>exact ⟨0,YK _,rfl,Below.refl _ _,ZH (fun i u h=>by omega)⟩
 case round =>
  obtain ⟨j,hj,rfl,bb,hlt0⟩:=hrel
  by_cases hlt:j<l.length
  · obtain ⟨t,ht⟩:∃ t,l[j]?=some t:=⟨_,YL hlt⟩
    obtain ⟨b,o,rfl,hbl,hc⟩:=HE.out (by omega)
    have l0:=(bb.cell (p:=⟨b,o+j,none⟩) hbl).trans (hc j hlt)
    rw [show l.getD j 0=t by rw [List.getD_eq_getElem?_getD,ht];rfl] at l0
    have HT:=ZH ht
    clear hc ht
    have wi1:IntKind.i64.wrap ((j:Int))=(j:Int):=IntWalk.i64_in _ (by omega)
    have zi1:(0:Int)<=(j:Int):=by omega
    have li1:(j:Int)<(l.length:Int):=by omega
    have ti1:((j:Int)).toNat=j:=by omega
    by_cases hq:x=t
    · subst hq
      have HM:=ZH (show decide ((0:Int)<=(j:Int))=decide (x ∈ l) by rw [decide_eq_true (YS HT.out),decide_eq_true (by omega)])
      go_wp2_with fail
      go_ret
      exact ⟨_,rfl,HM.out,bb⟩
    · have hb:(x == t)=false:=by simpa using hq
      have HQ:=ZH hq
      clear hq
      go_wp2_with fail
      go_roundw
      case rel=>exact ⟨j+1,by omega,by go_num,bb,ZH (fun i u hi hu=>by
       by_cases h:i=j
       · subst h
         rw [HT.out] at hu
         rw [<- Option.some.inj hu];exact fun q=>HQ.out q.symm
       · exact hlt0.out i u (by omega) hu)⟩
      case measure=>simp [intOf];omega
  · obtain rfl:j=l.length:=by omega
    have HM:=ZH (show decide ((0:Int)<=(-1:Int))=decide (x ∈ l) by
     rw [decide_eq_false (by omega),decide_eq_false]
     intro hm
     obtain ⟨i,hi⟩:=List.getElem?_of_mem hm
     exact hlt0.out i x (List.getElem?_eq_some_iff.1 hi).1 hi rfl)
    go_wp2
    go_ret
    exact ⟨_,rfl,HM.out,bb⟩
theorem xZ {v:Value}{l:List Int} (x:Int) (w:World) (hv:RdI w .i64 v l) :
 Calls Tryz.prog 162 #[v,.int .i64 x] w (dR w (.bool (decide (x ∈ l)))):=by
 have HI:=ZH (GP x w hv)
 obtain ⟨A,n,c,rfl,hn,hnc,hcm,hel⟩:=hv.ints
 clear hv hel hn hnc hcm
 go_enter Tryz.func162,Tryz.ntmps162
 go_wp2_with fail
 refine HI.out.mono ?_
 rintro e w' ⟨k,rfl,hk,b⟩
 have HK:=ZH hk
 clear hk
 go_wp2_with fail
 go_ret
 exact ⟨by rw [<- HK.out];rfl,b⟩
def VK (w:World) (o:Option RV) (e:Ending) (w':World):Prop:=∃ A n c,e=.returned (.tuple #[rvV (o.getD bY) (.slice A n c),.bool o.isSome])/\RdI w' .i64 (.slice A n c) (o.getD bY).ser/\Ext w w'
set_option maxHeartbeats 4000000 in
theorem tM (s0 s1 s2 s3 s4:SlT) (l:List RV) (st:List UInt8) (w:World) (h:RdV w (slV s3) l):Calls Tryz.prog 163 #[bH s0 s1 s2 s3 s4,.string (aK st)] w (VK w (ofR l st)):=by
 obtain ⟨A,n,c⟩:=s3
 obtain ⟨A',n',c',hs,hn,hnc,hcm,hel⟩:=h
 unfold slV at hs
 injection hs with hs1 hs2 hs3
 simp only at hs1 hs2 hs3
 subst hs1 hs2 hs3 hn
 obtain ⟨wz,hwz⟩:∃ wz,wz=(w.alloc (.cells #[.slice s0.1 s0.2.1 s0.2.2,.slice s1.1 s1.2.1 s1.2.2,.slice s2.1 s2.2.1 s2.2.2,.slice A l.length c,.slice s4.1 s4.2.1 s4.2.2] 75)).alloc (.cells #[.string ⟨#[]⟩,.int .i64 0,.int .i64 0,.int .i64 0,.slice none 0 0,.int .i64 0,.int .i64 0,.int .i64 0] 103):=⟨_,rfl⟩
 have e1:Ext w (w.alloc (.cells #[.slice s0.1 s0.2.1 s0.2.2,.slice s1.1 s1.2.1 s1.2.2,.slice s2.1 s2.2.1 s2.2.2,.slice A l.length c,.slice s4.1 s4.2.1 s4.2.2] 75)):=(Below.refl _ _).alloc (YF _) _
 have ez:Ext w wz:=by rw [hwz];exact e1.alloc (by simp) _
 have hz:wz.heap[w.heap.size]?=some (.cells #[.slice s0.1 s0.2.1 s0.2.2,.slice s1.1 s1.2.1 s1.2.2,.slice s2.1 s2.2.1 s2.2.2,.slice A l.length c,.slice s4.1 s4.2.1 s4.2.2] 75 (0,0)):=by rw [hwz];exact (((Below.refl _ _).alloc (YF _) _:Ext (w.alloc (.cells #[.slice s0.1 s0.2.1 s0.2.2,.slice s1.1 s1.2.1 s1.2.2,.slice s2.1 s2.2.1 s2.2.2,.slice A l.length c,.slice s4.1 s4.2.1 s4.2.2] 75)) _).block _ (by simp)).trans (aB w _)
 have TR0:bM wz (w.heap.size+1) bY (.slice none 0 0):=by
  have:=bM.new (w.alloc (.cells #[.slice s0.1 s0.2.1 s0.2.2,.slice s1.1 s1.2.1 s1.2.2,.slice s2.1 s2.2.1 s2.2.2,.slice A l.length c,.slice s4.1 s4.2.1 s4.2.2] 75)) bY (.slice none 0 0)
  rw [show (w.alloc (.cells #[.slice s0.1 s0.2.1 s0.2.2,.slice s1.1 s1.2.1 s1.2.2,.slice s2.1 s2.2.1 s2.2.2,.slice A l.length c,.slice s4.1 s4.2.1 s4.2.2] 75)).heap.size=w.heap.size+1 by simp] at this
  rw [hwz];exact this
 have TR:=ZH TR0
 have EZ:=ZH ez
 have c3:wz.cell? ⟨w.heap.size,3,none⟩=some (.slice A l.length c):=by rw [cell_of_row _ _ 3 _ _ _ hz];rfl
 have cl:=aA hz
 clear hz TR0 e1 ez
 have HE:=ZH hel
 unfold maxLen at hcm
 clear hel
 obtain ⟨fo,hfo⟩:∃ fo,ofR l st=fo:=⟨_,rfl⟩
 rw [hfo]
 have HF:=ZH hfo
 clear hfo
 have HQ:=fun (s:List UInt8)=>gJ s st
 unfold bH
 go_enter Tryz.func163,Tryz.ntmps163
 go_wp2_with fail
 try rw [<- hwz]
 try clear hwz
 go_loopw [6] (fun s6 wr=>∃ j:Nat,j<=l.length/\s6=.int .i64 (j:Int)/\wr=wz/\Hid (∀ i u,i<j->l[i]?=some u->u.st≠st)) (fun s6 _=>l.length - (intOf s6).toNat)
 case atStart=>exact ⟨0,YK _,rfl,rfl,ZH (fun i u h=>by omega)⟩
 case round =>
  obtain ⟨j,hj,rfl,hwr,hlt0⟩:=hrel
  subst hwr
  by_cases hlt:j<l.length
  case pos =>
   obtain ⟨t,ht⟩:∃ t,l[j]?=some t:=⟨_,YL hlt⟩
   obtain ⟨b,o,rfl,hbl,A1,n1,c1,e0,e1,e2,e3,e4,e5,e6,e7,hser⟩:=HE.out j t ht
   have l0:=(EZ.out.cell (p:=⟨b,o+j*8,none⟩) hbl).trans e0
   have l1:=(EZ.out.cell (p:=⟨b,o+j*8+1,none⟩) hbl).trans e1
   have l2:=(EZ.out.cell (p:=⟨b,o+j*8+2,none⟩) hbl).trans e2
   have l3:=(EZ.out.cell (p:=⟨b,o+j*8+3,none⟩) hbl).trans e3
   have l4:=(EZ.out.cell (p:=⟨b,o+j*8+4,none⟩) hbl).trans e4
   have l5:=(EZ.out.cell (p:=⟨b,o+j*8+5,none⟩) hbl).trans e5
   have l6:=(EZ.out.cell (p:=⟨b,o+j*8+6,none⟩) hbl).trans e6
   have l7:=(EZ.out.cell (p:=⟨b,o+j*8+7,none⟩) hbl).trans e7
   have HT:=ZH ht
   have HS:=ZH hser
   clear e0 e1 e2 e3 e4 e5 e6 e7 hser ht
   have wi1:IntKind.i64.wrap ((j:Int))=(j:Int):=IntWalk.i64_in _ (by omega)
   have zi1:(0:Int)<=(j:Int):=by omega
   have li1:(j:Int)<(l.length:Int):=by omega
   have ti1:((j:Int)).toNat=j:=by omega
   by_cases hq:t.st=st
   · have HN:=ZH (show fo=some t by
      rw [<- HF.out]
      unfold ofR
      rw [List.find?_eq_some_iff_getElem]
      have hh:=HT.out
      rw [YL hlt] at hh
      exact ⟨decide_eq_true hq,j,hlt,Option.some.inj hh,fun i hi=>by have:=hlt0.out i _ hi (YL (by omega));simpa using this⟩)
     have HD:=HQ t.st
     rw [decide_eq_true hq] at HD
     clear hq HQ
     obtain ⟨r0,r1,r2,r3,r4,r5,r6,r7⟩:=TR.out.cells
     have hlr:=TR.out.lt
     have g0:=TR.out.frozen 0
     have g1:=TR.out.frozen 1
     have g2:=TR.out.frozen 2
     have g3:=TR.out.frozen 3
     have g4:=TR.out.frozen 4
     have g5:=TR.out.frozen 5
     have g6:=TR.out.frozen 6
     have g7:=TR.out.frozen 7
     go_wp2_with fail
     have TZ:bM (setR wr (w.heap.size+1) t (.slice A1 n1 c1)) (w.heap.size+1) t (.slice A1 n1 c1):=TR.out.setR t (.slice A1 n1 c1)
     have XZ:=ZH (lK EZ.out (Nat.le_succ _) t (.slice A1 n1 c1))
     refine bodyPost_ret (v:=.tuple #[rvV t (.slice A1 n1 c1),.bool true]) ?_ rfl ⟨A1,n1,c1,by rw [HN.out];rfl,by rw [HN.out];exact HS.out.ext XZ.out,XZ.out⟩
     obtain ⟨q0,q1,q2,q3,q4,q5,q6,q7⟩:=TZ.cells
     clear r0 r1 r2 r3 r4 r5 r6 r7
     simp [results,Tryz.results163,go_sem,rvV,q0,q1,q2,q3,q4,q5,q6,q7]
   · have HD:=HQ t.st
     rw [decide_eq_false hq] at HD
     have HX:=ZH hq
     clear hq HQ
     go_wp2_with fail
     go_roundw
     case rel=>exact ⟨j+1,by omega,by go_num,trivial,ZH (fun i u hi hu=>by
      by_cases h:i=j
      · subst h
        rw [HT.out] at hu
        rw [<- Option.some.inj hu];exact HX.out
      · exact hlt0.out i u (by omega) hu)⟩
     case measure=>simp [intOf];omega
  case neg =>
   obtain rfl:j=l.length:=by omega
   have HN:=ZH (show fo=none by
    rw [<- HF.out]
    unfold ofR
    rw [List.find?_eq_none]
    intro x hx
    obtain ⟨i,hi⟩:=List.getElem?_of_mem hx
    simpa using hlt0.out i x (List.getElem?_eq_some_iff.1 hi).1 hi)
   obtain ⟨r0,r1,r2,r3,r4,r5,r6,r7⟩:=TR.out.cells
   have hlr:=TR.out.lt
   have g0:=TR.out.frozen 0
   have g1:=TR.out.frozen 1
   have g2:=TR.out.frozen 2
   have g3:=TR.out.frozen 3
   have g4:=TR.out.frozen 4
   have g5:=TR.out.frozen 5
   have g6:=TR.out.frozen 6
   have g7:=TR.out.frozen 7
   go_wp2_with fail
   have TZ:bM (GN wr (w.heap.size+1) (.string ⟨#[]⟩) (.int .i64 0) (.int .i64 0) (.int .i64 0) (.slice none 0 0) (.int .i64 0) (.int .i64 0) (.int .i64 0)) (w.heap.size+1) bY (.slice none 0 0):=TR.out.setR bY (.slice none 0 0)
   refine bodyPost_ret (v:=.tuple #[rvV bY (.slice none 0 0),.bool false]) ?_ rfl ⟨none,0,0,by rw [HN.out];rfl,by rw [HN.out];exact Rd.nil_ _,lK EZ.out (by omega) bY (.slice none 0 0)⟩
   obtain ⟨q0,q1,q2,q3,q4,q5,q6,q7⟩:=TZ.cells
   clear r0 r1 r2 r3 r4 r5 r6 r7
   simp [results,Tryz.results163,go_sem,rvV,q0,q1,q2,q3,q4,q5,q6,q7]
set_option maxHeartbeats 2000000 in
theorem BL (s0 s1 s2 s3 s4:SlT) (l:List RV) (st:List UInt8) (day:Int) (w:World) (h:RdV w (slV s3) l):Calls Tryz.prog 73 #[bH s0 s1 s2 s3 s4,.string (aK st),.int .i64 day] w (dR w (.bool (frR l st day))):=by
 obtain ⟨wz,hwz⟩:∃ wz,wz=(w.alloc (stO s0 s1 s2 s3 s4)):=⟨_,rfl⟩
 have ez:Ext w wz:=by rw [hwz];exact (Below.refl _ _).alloc (YF _) _
 have HP:=ZH (fun W (e:Ext w W)=>tM s0 s1 s2 s3 s4 l st W (h.ext e))
 clear h
 have EZ:=ZH ez
 clear ez
 unfold bH at HP ⊢
 go_enter Tryz.func73,Tryz.ntmps73
 go_wp2_with fail
 rw [<- hwz]
 clear hwz
 refine (HP.out wz EZ.out).mono ?_
 rintro e w2 ⟨A,n,c,rfl,hs,b2⟩
 have X2:=ZH (EZ.out.tr b2)
 clear hs b2
 cases hf:ofR l st with
 | none =>
   have HF:=ZH (show frR l st day=false by unfold frR;rw [hf])
   simp only [Option.getD_none,Option.isSome_none]
   clear hf
   obtain ⟨wa,hwa,xa,ta⟩:=hM w2 bY (.slice A n c)
   unfold rvV
   go_wp2_with fail
   go_ret
   exact ⟨by rw [HF.out];rfl,X2.out.tr ((Below.refl _ _).alloc (YF _) _)⟩
 | some r =>
   have HF:=ZH (show frR l st day=decide (day<=r.nxt) by unfold frR;rw [hf])
   simp only [Option.getD_some,Option.isSome_some]
   clear hf
   unfold rvV
   go_wp2_with fail
   go_ret
   exact ⟨by rw [HF.out];rfl,X2.out.tr ((Below.refl _ _).alloc (YF _) _)⟩
end Go.Proofs.YtkjplpmogfmhkaaGreatDoor
