/- Parts Zd of the proof. -/
import Derived.Test.YtkjplpmogfmhkaaGreatDoorLat
import Derived.Test.YtkjplpmogfmhkaaGreatDoorLaj
namespace Go.Proofs.YtkjplpmogfmhkaaGreatDoor
open Go.RowKit
set_option linter.unusedVariables false
set_option maxRecDepth 100000
def mR:List UInt8:=[85,84,79]
def JN:List UInt8:=[68]
def RP:List UInt8:=[88,79,77]
def RQ:List UInt8:=[90,90,90]
def gE (n:Int):List UInt8:=if eF n 4=0 then mR else if eF n 4=1 then JN else if eF n 4=2 then RP else RQ
theorem vK:cM mR:=by decide
theorem JP:cM JN:=by decide
theorem JQ (n:Int):cM (gE n):=by
 unfold gE
 split
 · exact vK
 · split
   · exact JP
   · split
     · exact (by decide:cM RP)
     · exact (by decide:cM RQ)
def F5 (k:Int) (st:List UInt8) (kind num iss own key fr un td:Int):NC:=pQ k ⟨st,kind,num,iss,own,key,fr,un,td,0,0⟩
structure kL (c:NC) (st:List UInt8) (kind num iss own key fr un td p:Int):Prop where
 ck:ckN c=0
 st:c.st=st
 kind:c.kind=kind
 num:c.num=num
 iss:c.iss=iss
 own:c.own=own
 key:c.key=key
 fr:c.fr=fr
 un:c.un=un
 tdd:c.to=td
 vf:vfN p c=true
theorem GY {k:Int}{st:List UInt8}{kind num iss own key fr un td:Int} (hk:inB 1 1073741789 k=true) (h1:cM st) (h2:1≤kind∧kind≤4) (h3:oI num iss own kind) (h4:cK key=true) (h5:xU fr un td) :
 kL (F5 k st kind num iss own key fr un td) st kind num iss own key fr un td (pw 4 k):=by
 have hc:ckN ⟨st,kind,num,iss,own,key,fr,un,td,0,0⟩=0:=zG h1 (by show ¬ (kind<1 ∨ 4<kind);omega) h3 h4 h5
 have hv:=JD hk hc
 have hw:=(zI hk hc).1
 unfold F5
 rw [zH hk hc] at hv hw ⊢
 exact ⟨hw,rfl,rfl,rfl,rfl,rfl,rfl,rfl,rfl,rfl,hv⟩
theorem rI {k:Int}{st:List UInt8}{kind num iss own key fr un td:Int}{c:NC} (h:kL c st kind num iss own key fr un td k):smN c:=vC h.ck
theorem kL.on {c:NC}{st:List UInt8}{kind num iss own key fr un td p day:Int} (h:kL c st kind num iss own key fr un td p) (h1:fr≤day) (h2:day≤td):onN c day=0:=by
 unfold onN
 rw [if_pos h.ck,if_neg (by rw [h.fr];omega),if_neg (by rw [h.tdd];omega)]
structure AU where
 st:List UInt8
 next:Int
 roots:List NC
 links:List NC
 secs:List Int
 sg:NC
 ls:NC
 ssec:Int
 lsec:Int
def kT (a:AU) (seed:Int):Int:=hM (seed*97+(a.secs.length:Int)*13)
def MI (a:AU) (seed:Int):Int:=hM (seed*89+(a.secs.length:Int)*7+1)
def MJ (a:AU) (seed:Int):Int:=hM (seed*83+(a.secs.length:Int)*5+2)
def kU (a:AU):Int:=if a.secs.length=0 then a.next+1 else a.next+1+1
def H7 (a:AU) (seed day:Int):NC:=F5 (kT a seed) a.st 1 a.next ((a.secs.length:Int)+1) ((a.secs.length:Int)+1) (pw 4 (kT a seed)) day (day+1825) (day+5475)
def oL (a:AU) (seed day:Int):NC:=F5 (a.secs.getD (a.secs.length - 1) 0) a.st 2 (a.next+1) (a.secs.length:Int) ((a.secs.length:Int)+1) (pw 4 (kT a seed)) day (day+1825) (day+5475)
def CG (a:AU) (seed day:Int):NC:=F5 (kT a seed) a.st 3 (kU a) ((a.secs.length:Int)+1) (1000+kU a) (pw 4 (MI a seed)) day (day+90) (day+3740)
def CI (a:AU) (seed day:Int):NC:=F5 (kT a seed) a.st 4 (kU a+1) ((a.secs.length:Int)+1) (1000+(kU a+1)) (pw 4 (MJ a seed)) day (day+365) (day+730)
def CJ (a:AU) (seed day:Int):AU :=
 ⟨a.st,kU a+1+1,a.roots++[H7 a seed day],(if a.secs.length=0 then a.links else a.links++[oL a seed day]),a.secs++[kT a seed],CG a seed day,CI a seed day,MI a seed,MJ a seed⟩
def MK (st:List UInt8):AU:=⟨st,1,[],[],[],cQ,cQ,0,0⟩
theorem pY (x:Int):inB 1 1073741789 (hM x)=true:=GM x
theorem nN (x:Int):cK (pw 4 (hM x))=true:=by
 obtain ⟨h0,h1⟩:=cT (pY x)
 exact BA h0 h1
structure AuI (a:AU) (ds:List Int):Prop where
 st:cM a.st
 len:a.secs.length=ds.length
 le:ds.length≤8
 next:1≤a.next∧a.next≤1+4*(ds.length:Int)
 days:∀ d ∈ ds,40000≤d∧d≤42000
 rlen:a.roots.length=ds.length
 llen:a.links.length=ds.length - 1
 sec:∀ k ∈ a.secs,inB 1 1073741789 k=true
 rt:∀ (i:Nat) (c:NC),a.roots[i]?=some c→∃ k d num:Int,a.secs[i]?=some k∧ds[i]?=some d∧1≤num∧num≤100∧kL c a.st 1 num ((i:Int)+1) ((i:Int)+1) (pw 4 k) d (d+1825) (d+5475) (pw 4 k)
 lk:∀ (i:Nat) (c:NC),a.links[i]?=some c→∃ k k' d num:Int,a.secs[i]?=some k∧a.secs[i+1]?=some k'∧ds[i+1]?=some d∧1≤num∧num≤100∧kL c a.st 2 num ((i:Int)+1) ((i:Int)+1+1) (pw 4 k') d (d+1825) (d+5475) (pw 4 k)
 sg:ds≠[]→∃ k d num:Int,a.secs[ds.length - 1]?=some k∧ds[ds.length - 1]?=some d∧1≤num∧num≤100∧inB 1 1073741789 a.ssec=true∧kL a.sg a.st 3 num (ds.length:Int) (1000+num) (pw 4 a.ssec) d (d+90) (d+3740) (pw 4 k)
 ls:ds≠[]→∃ k d num:Int,a.secs[ds.length - 1]?=some k∧ds[ds.length - 1]?=some d∧1≤num∧num≤100∧inB 1 1073741789 a.lsec=true∧kL a.ls a.st 4 num (ds.length:Int) (1000+num) (pw 4 a.lsec) d (d+365) (d+730) (pw 4 k)
 ne:ds≠[]→a.sg.num≠a.ls.num
theorem ML {st:List UInt8} (h:cM st):AuI (MK st) [] :=
 ⟨h,rfl,V7 _,⟨by show (1:Int)≤1;omega,by show (1:Int)≤1+4*0;omega⟩,fun d hd=>(by cases hd),rfl,rfl,fun k hk=>(by cases hk),fun i c hc=>(by cases hc),fun i c hc=>(by cases hc),fun q=>absurd rfl q,fun q=>absurd rfl q,fun q=>absurd rfl q⟩
theorem CK {α:Type}{l:List α}{x y:α}{i:Nat} (h:(l++[x])[i]?=some y):l[i]?=some y ∨ (i=l.length∧y=x):=by
 by_cases hi:i<l.length
 · rw [List.getElem?_append_left hi] at h
   exact .inl h
 · rw [List.getElem?_append_right (by omega)] at h
   have h0:i - l.length=0:=by
    have:=(List.getElem?_eq_some_iff.1 h).1
    simpa using this
   rw [h0] at h
   exact .inr ⟨by omega,(Option.some.inj h).symm⟩
theorem lI {α:Type}{l:List α}{x y:α}{i:Nat} (h:l[i]?=some y):(l++[x])[i]?=some y:=by
 rw [List.getElem?_append_left (List.getElem?_eq_some_iff.1 h).1]
 exact h
theorem j2 {α:Type} (l:List α) (x:α) {n:Nat} (h:n=l.length):(l++[x])[n]?=some x:=by
 subst h
 simp
theorem PR (a:AU):kU a=a.next+1 ∨ kU a=a.next+1+1:=by
 unfold kU
 split
 · exact .inl rfl
 · exact .inr rfl
theorem PS {a:AU}{ds:List Int} (h:AuI a ds) (seed:Int) {day:Int} (h0:40000≤day) (h1:day≤42000) (h8:ds.length<8):AuI (CJ a seed day) (ds++[day]):=by
 have hn:=h.next
 have hk:=PR a
 have hl:=h.len
 have hle:(a.secs.length:Int)≤7:=by rw [hl];omega
 have kin:inB 1 1073741789 (kT a seed)=true:=pY _
 have hroot:kL (H7 a seed day) a.st 1 a.next ((ds.length:Int)+1) ((ds.length:Int)+1) (pw 4 (kT a seed)) day (day+1825) (day+5475) (pw 4 (kT a seed)):=by
  have:=GY (k:=kT a seed) (st:=a.st) (kind:=1) (num:=a.next) (iss:=(a.secs.length:Int)+1) (own:=(a.secs.length:Int)+1) (key:=pw 4 (kT a seed)) (fr:=day) (un:=day+1825) (td:=day+5475) kin h.st ⟨by omega,by omega⟩
   ⟨⟨by omega,by omega⟩,⟨by omega,by omega⟩,⟨by omega,by omega⟩,⟨fun _=>rfl,fun _=>rfl⟩⟩ (nN _) ⟨by omega,by omega,by omega,by omega⟩
  rw [show (ds.length:Int)=(a.secs.length:Int) by rw [hl]]
  exact this
 have hsign:kL (CG a seed day) a.st 3 (kU a) ((ds.length:Int)+1) (1000+kU a) (pw 4 (MI a seed)) day (day+90) (day+3740) (pw 4 (kT a seed)):=by
  have:=GY (k:=kT a seed) (st:=a.st) (kind:=3) (num:=kU a) (iss:=(a.secs.length:Int)+1) (own:=1000+kU a) (key:=pw 4 (MI a seed)) (fr:=day) (un:=day+90) (td:=day+3740) kin h.st ⟨by omega,by omega⟩
   ⟨⟨by omega,by omega⟩,⟨by omega,by omega⟩,⟨by omega,by omega⟩,⟨fun _=>by omega,fun _=>by omega⟩⟩ (nN _) ⟨by omega,by omega,by omega,by omega⟩
  rw [show (ds.length:Int)=(a.secs.length:Int) by rw [hl]]
  exact this
 have hlist:kL (CI a seed day) a.st 4 (kU a+1) ((ds.length:Int)+1) (1000+(kU a+1)) (pw 4 (MJ a seed)) day (day+365) (day+730) (pw 4 (kT a seed)):=by
  have:=GY (k:=kT a seed) (st:=a.st) (kind:=4) (num:=kU a+1) (iss:=(a.secs.length:Int)+1) (own:=1000+(kU a+1)) (key:=pw 4 (MJ a seed)) (fr:=day) (un:=day+365) (td:=day+730) kin h.st ⟨by omega,by omega⟩
   ⟨⟨by omega,by omega⟩,⟨by omega,by omega⟩,⟨by omega,by omega⟩,⟨fun _=>by omega,fun _=>by omega⟩⟩ (nN _) ⟨by omega,by omega,by omega,by omega⟩
  rw [show (ds.length:Int)=(a.secs.length:Int) by rw [hl]]
  exact this
 have el:(ds++[day]).length=ds.length+1:=by simp
 have ec:(((ds++[day]).length:Nat):Int)=(ds.length:Int)+1:=by rw [el];omega
 refine ⟨h.st,?_,by rw [el];omega,?_,?_,?_,?_,?_,?_,?_,?_,?_,?_⟩
 · show (a.secs++[_]).length=_
   rw [V5,el,hl]
   rfl
 · show 1≤kU a+1+1∧kU a+1+1≤_
   rw [ec]
   omega
 · intro d hd
   rcases List.mem_append.1 hd with hd | hd
   · exact h.days d hd
   · rw [List.mem_singleton.1 hd];exact ⟨h0,h1⟩
 · show (a.roots++[_]).length=_
   rw [V5,el,h.rlen]
   rfl
 · show (if a.secs.length=0 then a.links else a.links++[oL a seed day]).length=_
   rw [el]
   have:=h.llen
   split
   · rename_i q
     rw [this];omega
   · rename_i q
     rw [V5,this]
     show ds.length - 1+1=_
     omega
 · intro k hk
   rcases List.mem_append.1 hk with hk | hk
   · exact h.sec k hk
   · rw [List.mem_singleton.1 hk];exact kin
 · intro i c hc
   rcases CK hc with hc | ⟨hi,rfl⟩
   · obtain ⟨k,d,num,q1,q2,q3,q4,q5⟩:=h.rt i c hc
     exact ⟨k,d,num,lI q1,lI q2,q3,q4,q5⟩
   · rw [h.rlen] at hi
     subst hi
     exact ⟨_,_,_,j2 _ _ hl.symm,j2 _ _ rfl,hn.1,by omega,hroot⟩
 · intro i c hc
   by_cases h00:a.secs.length=0
   · have hc':(if a.secs.length=0 then a.links else a.links++[oL a seed day])[i]?=some c:=hc
     rw [if_pos h00] at hc'
     have:=(List.getElem?_eq_some_iff.1 hc').1
     rw [h.llen] at this
     omega
   · have hc':(if a.secs.length=0 then a.links else a.links++[oL a seed day])[i]?=some c:=hc
     rw [if_neg h00] at hc'
     rcases CK hc' with hc | ⟨hi,rfl⟩
     · obtain ⟨k,k',d,num,q1,q1',q2,q3,q4,q5⟩:=h.lk i c hc
       exact ⟨k,k',d,num,lI q1,lI q1',lI q2,q3,q4,q5⟩
     · rw [h.llen] at hi
       have hsl:ds.length - 1<a.secs.length:=by omega
       obtain ⟨ko,hko⟩:∃ ko,a.secs[ds.length - 1]?=some ko:=⟨_,V8 hsl⟩
       have e1:a.secs.getD (a.secs.length - 1) 0=ko:=by rw [hl,List.getD_eq_getElem?_getD,hko];rfl
       have kin0:=h.sec ko (VD hko)
       have hlink:=GY (k:=ko) (st:=a.st) (kind:=2) (num:=a.next+1) (iss:=(a.secs.length:Int)) (own:=(a.secs.length:Int)+1) (key:=pw 4 (kT a seed)) (fr:=day) (un:=day+1825) (td:=day+5475) kin0 h.st ⟨by omega,by omega⟩
        ⟨⟨by omega,by omega⟩,⟨by omega,by omega⟩,⟨by omega,by omega⟩,⟨fun _=>by omega,fun _=>by omega⟩⟩ (nN _) ⟨by omega,by omega,by omega,by omega⟩
       subst hi
       refine ⟨ko,kT a seed,day,a.next+1,lI hko,j2 _ _ (by omega),j2 _ _ (by omega),by omega,by omega,?_⟩
       have ei:(((ds.length - 1:Nat):Int)+1)=(a.secs.length:Int):=by omega
       rw [ei]
       unfold oL
       rw [e1]
       exact hlink
 · intro _
   refine ⟨kT a seed,day,kU a,?_,?_,by omega,by omega,pY _,?_⟩
   · rw [el];exact j2 _ _ (by omega)
   · rw [el];exact j2 _ _ (by omega)
   · rw [ec];exact hsign
 · intro _
   refine ⟨kT a seed,day,kU a+1,?_,?_,by omega,by omega,pY _,?_⟩
   · rw [el];exact j2 _ _ (by omega)
   · rw [el];exact j2 _ _ (by omega)
   · rw [ec];exact hlist
 · intro _
   show (CG a seed day).num≠(CI a seed day).num
   rw [hsign.num,hlist.num]
   omega
theorem PT {a b:NC}{st:List UInt8}{ka na ia oa ya fa ua ta pa kb nb ib ob yb fb ub tb pb day:Int} (ha:kL a st ka na ia oa ya fa ua ta pa) (hb:kL b st kb nb ib ob yb fb ub tb pb) (h1:ib=oa) (h2:ka=1 ∨ ka=2) (h3:kb≠1) (h4:pb=ya)
 (d1:fa≤day) (d2:day≤ta) (d3:fb≤day) (d4:day≤tb):eM day a b=true :=
 decide_eq_true ⟨by rw [ha.st,hb.st],by rw [hb.iss,ha.own];exact h1,by rw [ha.kind];exact h2,by rw [hb.kind];exact h3,ha.on d1 d2,hb.on d3 d4,by rw [ha.key,← h4];exact hb.vf⟩
theorem MM {c:NC}{st:List UInt8}{num iss own key fr un td day:Int} (h:kL c st 1 num iss own key fr un td key) (d1:fr≤day) (d2:day≤td):oK st day c :=
 ⟨h.st,h.on d1 d2,by unfold rtN;rw [if_pos h.kind,h.key];exact h.vf⟩
end Go.Proofs.YtkjplpmogfmhkaaGreatDoor
