/- Parts Bw of the proof. -/
import Derived.Test.YtkjplpmogfmhkaaGreatDoorHbg
namespace Go.Proofs.YtkjplpmogfmhkaaGreatDoor
open Go.RowKit
set_option linter.unusedVariables false
set_option maxRecDepth 100000
theorem N8 {l:List Int}{z:Int} (h:∀ y ∈ l,y<z):dD l z=l++[z]:=by
 unfold dD
 rw [List.filter_eq_self.2 (fun y hy=>decide_eq_true (h y hy)),List.filter_eq_nil_iff.2 (fun y hy=>by have:=h y hy;simp;omega)]
def nwL (vs:List Int):Nat->List Int
 | 0=>vs
 | i+1=>nwL vs i++[10+(i:Int)]
theorem uO {vs:List Int}{y:Int}:∀ {i:Nat},y ∈ nwL vs i ↔ y ∈ vs \/ (10<=y/\y<10+(i:Int))
 | 0=>⟨.inl,fun h=>h.elim id fun q=>by omega⟩
 | i+1=>by
   show y ∈ nwL vs i++[10+(i:Int)] ↔ _
   rw [List.mem_append,List.mem_singleton,uO (i:=i)]
   constructor
   · rintro ((h | h) | h)
     · exact .inl h
     · exact .inr (by omega)
     · exact .inr (by omega)
   · rintro (h | h)
     · exact .inl (.inl h)
     · by_cases q:y=10+(i:Int)
       · exact .inr q
       · exact .inl (.inr (by omega))
theorem iOq {vs:List Int}{i:Nat} (h:∀ v ∈ vs,1<=v/\v<=8):∀ y ∈ nwL vs i,1<=y/\y<10+(i:Int):=fun y hy=>by
 rcases uO.1 hy with q | q
 · have:=h y q;omega
 · omega
theorem QD {vs:List Int} (i:Nat) (h:∀ v ∈ vs,1<=v/\v<=8):dD (nwL vs i) (10+(i:Int))=nwL vs (i+1):=N8 fun y hy=>(iOq h y hy).2
theorem rD (vs:List Int):∀ i:Nat,(nwL vs i).length=vs.length+i
 | 0=>rfl
 | i+1=>by
   show (nwL vs i++[10+(i:Int)]).length=_
   rw [YJ,rD vs i]
   rfl
theorem QE {vs:List Int} (h:∀ v ∈ vs,1<=v/\v<=8) (hp:vs.Pairwise (·<·)):∀ i:Nat,(nwL vs i).Pairwise (·<·)
 | 0=>hp
 | i+1=>by
   show (nwL vs i++[10+(i:Int)]).Pairwise _
   exact List.pairwise_append.2 ⟨QE h hp i,List.pairwise_singleton _ _,fun y hy z hz=>by rw [List.mem_singleton.1 hz];exact (iOq h y hy).2⟩
theorem W2 {l:List Int} (h:l.Pairwise (·<·)):tZ l=true:=oH.2 fun j x y hx hy=>by
 obtain ⟨h1,e1⟩:=List.getElem?_eq_some_iff.1 hx
 obtain ⟨h2,e2⟩:=List.getElem?_eq_some_iff.1 hy
 rw [<- e1,<- e2]
 exact List.pairwise_iff_getElem.1 h j (j+1) h1 h2 (by omega)
def rNb (st:List UInt8) (li:Int) (vs:List Int) (n:Int) (i:Nat):RV:=⟨st,li+(i:Int),40100,40100+90,nwL vs (i+1),n,0,0⟩
def rN (st:List UInt8) (li:Int) (vs:List Int) (n k:Int) (i:Nat):RV:=eT k (rNb st li vs n i)
theorem W5 {st:List UInt8}{li n:Int}{vs:List Int}{i:Nat} (hs:cC st) (hl:1<=li/\li<=100) (hn:1<=n/\n<=100) (h3:vs.length<=3) (hp:vs.Pairwise (·<·)) (h:∀ v ∈ vs,1<=v/\v<=8) (hi:i<4):ckR (rNb st li vs n i)=0:=by
 unfold ckR
 have hl':=rD vs (i+1)
 rw [if_neg (fun q=>q hs),if_neg (fun q=>q ⟨⟨by show (1:Int)<=li+(i:Int);omega,by show li+(i:Int)<=1073741824;omega⟩,⟨by show (1:Int)<=n;omega,by show n<=1073741824;omega⟩⟩),
  if_neg (fun q=>q ⟨by show (0:Int)<=40100;omega,by show (40100:Int)<=40100+90;omega,by show (40100+90:Int)<=73048;omega⟩),if_neg (by show ¬ 64<(nwL vs (i+1)).length;omega),if_neg,if_pos (show tZ (rNb st li vs n i).ser=true from W2 (QE h hp (i+1)))]
 intro q
 obtain ⟨y,hy,hq⟩:=List.any_eq_true.1 q
 have hy:=iOq h y hy
 have hs:eH y:=⟨hy.1,by omega⟩
 rw [decide_eq_true hs] at hq
 exact absurd hq (by decide)
theorem FC {out:List NC}{x c:NC} (h:c ∈ out):c ∈ gL out x:=by
 unfold gL
 split
 · exact h
 · exact List.mem_append_left _ h
theorem IP (out:List NC) (x:NC):x ∈ gL out x:=by
 unfold gL
 split
 · assumption
 · exact List.mem_append_right _ (List.mem_singleton.2 rfl)
theorem QF {l:List NC}:∀ {out:List NC}{c:NC},c ∈ out->c ∈ eI out l:=by
 induction l with
 | nil=>exact fun h=>h
 | cons x l ih=>exact fun h=>ih (FC h)
theorem U0 {l:List NC}:∀ {out:List NC}{c:NC},c ∈ l->c ∈ eI out l:=by
 induction l with
 | nil=>exact fun h=>(by cases h)
 | cons x l ih =>
   intro out c h
   rcases List.mem_cons.1 h with rfl | h
   · exact QF (l:=l) (IP out c)
   · exact ih h
structure NwR (roots:List NC) (st:List UInt8) (li:Int) (vs:List Int) (i:Nat) (r:RV):Prop where
 ck:ckR r=0
 st:r.st=st
 num:r.num=li+(i:Int)
 day:r.day=40100
 ser:r.ser=nwL vs (i+1)
 sg:∀ rs:List RV,fY ⟨roots,[],[],rs,[]⟩ r 40100=0
theorem UT {a:AU}{ds:List Int}{k li:Int}{vs:List Int}{i:Nat} (h:AuI a ds) (hne:1<=ds.length) (hd:∀ d ∈ ds,d<=40060) (hk:a.secs[a.secs.length - 1]?=some k) (hl:1<=li/\li<=100) (h3:vs.length<=3) (hp:vs.Pairwise (·<·)) (hv:∀ v ∈ vs,1<=v/\v<=8) (hi:i<4) :
 kE k (rNb a.st li vs (a.secs.length:Int) i)=0/\NwR a.roots a.st li vs i (rN a.st li vs (a.secs.length:Int) k i):=by
 have hlen:=h.len
 have hle:=h.le
 have hkk:inB 1 1073741789 k=true:=h.sec k (YS hk)
 have hc:ckR (rNb a.st li vs (a.secs.length:Int) i)=0:=W5 h.st hl (by omega) h3 hp hv hi
 have hr:=BT hkk hc
 have hy:=wY hkk hc
 refine ⟨KU hkk hc,?_⟩
 unfold rN
 have f1:(eT k (rNb a.st li vs (a.secs.length:Int) i)).st=a.st:=by rw [hr];rfl
 have f2:(eT k (rNb a.st li vs (a.secs.length:Int) i)).num=li+(i:Int):=by rw [hr];rfl
 have f3:(eT k (rNb a.st li vs (a.secs.length:Int) i)).day=40100:=by rw [hr];rfl
 have f5:(eT k (rNb a.st li vs (a.secs.length:Int) i)).ser=nwL vs (i+1):=by rw [hr];rfl
 have f6:(eT k (rNb a.st li vs (a.secs.length:Int) i)).iss=(a.secs.length:Int):=by rw [hr];rfl
 have hck:ckR (eT k (rNb a.st li vs (a.secs.length:Int) i))=0:=by rw [hr,BS];exact hc
 generalize eT k (rNb a.st li vs (a.secs.length:Int) i)=r at *
 refine ⟨hck,f1,f2,f3,f5,fun rs=>?_⟩
 obtain ⟨c,hc⟩:∃ c,a.roots[ds.length - 1]?=some c:=⟨_,YL (by rw [h.rlen];omega)⟩
 obtain ⟨k',d,num,q1,q2,n1,n2,R⟩:=h.rt _ c hc
 rw [hlen] at hk
 obtain rfl:k=k':=by rw [hk] at q1;exact Option.some.inj q1
 have hdd:=hd d (YS q2)
 have hd0:=h.days d (YS q2)
 have hroot:oX a.st 40100 c:=E4 R (by omega) (by omega)
 have hin:c ∈ eI [] a.roots:=U0 (YS hc)
 have htr:c ∈ cW (eI [] a.roots) [] a.st 40100:=by
  obtain ⟨t,ht,_⟩:=sF (eI [] a.roots) [] a.st 40100
  rw [ht]
  exact List.mem_append_left _ (wL.2 ⟨hin,hroot⟩)
 unfold fY
 rw [if_pos hck,f1]
 refine BU htr ?_ ?_
 · rw [R.own,f6];omega
 · rw [R.key];exact hy
def stN (roots:List NC) (R:Nat->RV) (b:Nat):ST:=⟨roots,[],[],if b=0 then [] else [R (b - 1)],[]⟩
theorem U4 {roots:List NC}{st:List UInt8}{li:Int}{vs:List Int}{R:Nat->RV} (hR:∀ i,i<4->NwR roots st li vs i (R i)) {b k:Nat} (hb:b<=4) (hk:k<4) :
 accR (stN roots R b) (R k) 40100=if b<=k then (stN roots R (k+1),0) else (stN roots R b,67):=by
 have h:=hR k hk
 have e1:stN roots R (k+1)=⟨roots,[],[],[R k],[]⟩:=rfl
 cases b with
 | zero =>
   have e0:stN roots R 0=⟨roots,[],[],[],[]⟩:=rfl
   rw [if_pos (YK _),e1,e0]
   unfold accR
   rw [if_neg (fun q=>q h.ck),if_neg (by rw [h.day];omega),if_neg (fun q=>q (h.sg []))]
   rfl
 | succ b =>
   have hq:=hR b (by omega)
   have e0:stN roots R (b+1)=⟨roots,[],[],[R b],[]⟩:=rfl
   rw [e1,e0]
   unfold accR
   rw [if_neg (fun q=>q h.ck),if_neg (by rw [h.day];omega),if_neg (fun q=>q (h.sg [R b]))]
   have h0:[R b].findIdx? (fun t:RV=>decide (t.st=(R k).st))=some 0:=by
    rw [List.findIdx?_cons,decide_eq_true (by rw [hq.st,h.st])]
    rfl
   simp only [h0]
   show (if (R k).num<=(R b).num then _ else _)=_
   rw [h.num,hq.num]
   by_cases hx:b+1<=k
   · rw [if_pos hx,if_neg (by omega)]
     rfl
   · rw [if_neg hx,if_pos (by omega)]
theorem U5 {roots:List NC}{st:List UInt8}{li:Int}{vs:List Int}{R:Nat->RV} (hR:∀ i,i<4->NwR roots st li vs i (R i)) (hv:∀ v ∈ vs,1<=v/\v<=8) {b k:Nat} (hb:b<=4) (hk:k<4) :
 kG (stN roots R b).rs st (10+(k:Int))=decide (k<b):=by
 cases b with
 | zero =>
   show kG [] st _=_
   rw [decide_eq_false (by omega)]
   rfl
 | succ b =>
   have hq:=hR b (by omega)
   show kG [R b] st _=_
   have hof:ofR [R b] st=some (R b):=by
    unfold ofR
    rw [List.find?_cons,decide_eq_true hq.st]
   unfold kG
   rw [hof]
   show decide (_ ∈ (R b).ser)=_
   rw [hq.ser]
   by_cases hx:k<b+1
   · rw [decide_eq_true hx,decide_eq_true (uO.2 (.inr (by omega)))]
   · rw [decide_eq_false hx,decide_eq_false (fun q=>by
      rcases uO.1 q with q | q
      · have:=hv _ q;omega
      · omega)]
theorem U7 (roots:List NC) (R:Nat->RV) (b:Nat):(stN roots R b).rs.length<=1:=by
 unfold stN
 show (if b=0 then [] else [R (b - 1)]).length<=1
 split
 · exact YK _
 · exact YF _
end Go.Proofs.YtkjplpmogfmhkaaGreatDoor
