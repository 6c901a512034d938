import Derived.Test.YtmmoenkmicimcaaGreatDoorOao
namespace Go.Proofs.YtmmoenkmicimcaaGreatDoor
open Go.RowKit
set_option linter.unusedVariables false
set_option maxRecDepth 100000
def m7:List UInt8:=[85,84,79]
def SW:List UInt8:=[68]
def a0w:List UInt8:=[88,79,77]
def a0x:List UInt8:=[90,90,90]
def dO(n:Int):List UInt8:=if dQ n 4=0 then m7 else if dQ n 4=1 then SW else if dQ n 4=2 then a0w else a0x
theorem yS:cC m7:=by decide
theorem PW:cC SW:=by decide
theorem PX(n:Int):cC (dO n):=by
 unfold dO;split;· exact yS
 · split;(· exact PW);· split;(· exact(by decide:cC a0w));· exact(by decide:cC a0x)
def L7(k:Int)(st:List UInt8)(kind num iss own key fr un td:Int):NC:=sO k ⟨st,kind,num,iss,own,key,fr,un,td,0,0⟩
structure mG (c:NC) (st:List UInt8) (kind num iss own key fr un td p:Int):Prop where
 ck:ckN c=0
 st:c.st=st
 kind:c.kind=kind
 num:c.num=num
 iss:c.iss=iss
 own:c.own=own
 key:c.key=key
 fr:c.fr=fr
 un:c.un=un
 tdd:c.tqq=td
 vf:vfN p c=true
theorem NU {k:Int}{st:List UInt8}{kind num iss own key fr un td:Int}(l:dr 1 1073741789 k=true)(G:cC st)(K:1<=kind/\kind<=4)(H:qV num iss own kind)(I:dD key=true)(J:CO fr un td):mG (L7 k st kind num iss own key fr un td) st kind num iss own key fr un td (pw 4 k):=by have q:ckN ⟨st,kind,num,iss,own,key,fr,un,td,0,0⟩=0:=DZ G (by show¬(kind<1\/4<kind);omega) H I J;have C:=PS l q;have F:=(E2 l q).1;unfold L7;rw [E0 l q]at C F⊢;exact⟨F,rfl,rfl,rfl,rfl,rfl,rfl,rfl,rfl,rfl,C⟩
theorem CU {k:Int}{st:List UInt8}{kind num iss own key fr un td:Int}{c:NC}(h:mG c st kind num iss own key fr un td k):df c:=yM h.ck
theorem mG.on {c:NC}{st:List UInt8}{kind num iss own key fr un td p day:Int}(h:mG c st kind num iss own key fr un td p)(l:fr<=day)(q:day<=td):du c day=0:=by unfold du;rw [ax h.ck,ao (by rw [h.fr];omega),ao (by rw [h.tdd];omega)]
structure AU where
 st:List UInt8
 next:Int
 roots:List NC
 links:List NC
 secs:List Int
 sg:NC
 ls:NC
 ssec:Int
 lsec:Int
def mK(a:AU)(l:Int):Int:=j0 (l*97+(a.secs.length:Int)*13)
def SY(a:AU)(l:Int):Int:=j0 (l*89+(a.secs.length:Int)*7+1)
def T0(a:AU)(l:Int):Int:=j0 (l*83+(a.secs.length:Int)*5+2)
def mL(a:AU):Int:=if a.secs.length=0 then a.next+1 else a.next+1+1
def NV(a:AU)(l day:Int):NC:=L7 (mK a l) a.st 1 a.next ((a.secs.length:Int)+1) ((a.secs.length:Int)+1) (pw 4 (mK a l)) day (day+1825) (day+5475)
def qY(a:AU)(l day:Int):NC:=L7 (a.secs.getD (a.secs.length - 1) 0) a.st 2 (a.next+1) (a.secs.length:Int) ((a.secs.length:Int)+1) (pw 4 (mK a l)) day (day+1825) (day+5475)
def GJ(a:AU)(l day:Int):NC:=L7 (mK a l) a.st 3 (mL a) ((a.secs.length:Int)+1) (1000+mL a) (pw 4 (SY a l)) day (day+90) (day+3740)
def GK(a:AU)(l day:Int):NC:=L7 (mK a l) a.st 4 (mL a+1) ((a.secs.length:Int)+1) (1000+(mL a+1)) (pw 4 (T0 a l)) day (day+365) (day+730)
def GL(a:AU)(l day:Int):AU:=⟨a.st,mL a+1+1,a.roots++[NV a l day],(if a.secs.length=0 then a.links else a.links++[qY a l day]),a.secs++[mK a l],GJ a l day,GK a l day,SY a l,T0 a l⟩
def T6(st:List UInt8):AU:=⟨st,1,[],[],[],dL,dL,0,0⟩
theorem sV(x:Int):dr 1 1073741789 (j0 x)=true:=NL x
theorem qD(x:Int):dD (pw 4 (j0 x))=true:=by obtain⟨l,q⟩:=eR (sV x);exact FS l q
structure AuI (a:AU) (ds:List Int):Prop where
 st:cC a.st
 len:a.secs.length=ds.length
 le:ds.length<=8
 next:1<=a.next/\a.next<=1+4*(ds.length:Int)
 days:∀ d ∈ ds,40000<=d/\d<=42000
 rlen:a.roots.length=ds.length
 llen:a.links.length=ds.length - 1
 sec:∀ k ∈ a.secs,dr 1 1073741789 k=true
 rt:∀ (i:Nat) (c:NC),a.roots[i]?=some c->∃ k d num:Int,a.secs[i]?=some k/\ds[i]?=some d/\1<=num/\num<=100/\mG c a.st 1 num ((i:Int)+1) ((i:Int)+1) (pw 4 k) d (d+1825) (d+5475) (pw 4 k)
 lk:∀ (i:Nat) (c:NC),a.links[i]?=some c->∃ k k' d num:Int,a.secs[i]?=some k/\a.secs[i+1]?=some k'/\ds[i+1]?=some d/\1<=num/\num<=100/\mG c a.st 2 num ((i:Int)+1) ((i:Int)+1+1) (pw 4 k') d (d+1825) (d+5475) (pw 4 k)
 sg:ds≠[]->∃ k d num:Int,a.secs[ds.length - 1]?=some k/\ds[ds.length - 1]?=some d/\1<=num/\num<=100/\dr 1 1073741789 a.ssec=true/\mG a.sg a.st 3 num (ds.length:Int) (1000+num) (pw 4 a.ssec) d (d+90) (d+3740) (pw 4 k)
 ls:ds≠[]->∃ k d num:Int,a.secs[ds.length - 1]?=some k/\ds[ds.length - 1]?=some d/\1<=num/\num<=100/\dr 1 1073741789 a.lsec=true/\mG a.ls a.st 4 num (ds.length:Int) (1000+num) (pw 4 a.lsec) d (d+365) (d+730) (pw 4 k)
 ne:ds≠[]->a.sg.num≠a.ls.num
theorem T7 {st:List UInt8}(h:cC st):AuI (T6 st) []:=⟨h,rfl,de _,⟨by show(1:Int)<=1;omega,by show(1:Int)<=1+4*0;omega⟩,fun d C=>(by cases C),rfl,rfl,fun k F=>(by cases F),fun i c l=>(by cases l),fun i c l=>(by cases l),fun q=>absurd rfl q,fun q=>absurd rfl q,fun q=>absurd rfl q⟩
theorem GM {α:Type}{l:List α}{x y:α}{i:Nat}(h:(l++[x])[i]?=some y):l[i]?=some y\/(i=l.length/\y=x):=by
 by_cases hi:i<l.length;· rw [bi hi]at h;exact .inl h
 · rw [bf (by omega)]at h;have q:i - l.length=0:=(by have:=(aq.1 h).1;simpa using this);rw [q]at h;exact .inr ⟨by omega,(bc h).symm⟩
theorem mU {α:Type}{l:List α}{x y:α}{i:Nat}(h:l[i]?=some y):(l++[x])[i]?=some y:=by rw [bi (aq.1 h).1];exact h
theorem kC {α:Type}(l:List α)(x:α){n:Nat}(h:n=l.length):(l++[x])[n]?=some x:=by subst h;simp
theorem XO(a:AU):mL a=a.next+1\/mL a=a.next+1+1:=by
 unfold mL;split;· exact .inl rfl
 · exact .inr rfl
theorem XP {a:AU}{ds:List Int}(h:AuI a ds)(l:Int){day:Int}(h0:40000<=day)(h1:day<=42000)(h8:ds.length<8):AuI (GL a l day) (ds++[day]):=by
 have hn:=h.next;have G:=XO a;have F:=h.len;have b0:(a.secs.length:Int)<=7:=by rw [F];omega
 have N:dr 1 1073741789 (mK a l)=true:=sV _;have a3:mG (NV a l day) a.st 1 a.next ((ds.length:Int)+1) ((ds.length:Int)+1) (pw 4 (mK a l)) day (day+1825) (day+5475) (pw 4 (mK a l)):=by have:=NU (k:=mK a l) (st:=a.st) (kind:=1) (num:=a.next) (iss:=(a.secs.length:Int)+1) (own:=(a.secs.length:Int)+1) (key:=pw 4 (mK a l)) (fr:=day) (un:=day+1825) (td:=day+5475) N h.st ⟨by omega,by omega⟩ ⟨⟨by omega,by omega⟩,⟨by omega,by omega⟩,⟨by omega,by omega⟩,⟨fun _=>rfl,fun _=>rfl⟩⟩ (qD _) ⟨by omega,by omega,by omega,by omega⟩;rw [show(ds.length:Int)=(a.secs.length:Int)by rw [F]];exact this
 have a1:mG (GJ a l day) a.st 3 (mL a) ((ds.length:Int)+1) (1000+mL a) (pw 4 (SY a l)) day (day+90) (day+3740) (pw 4 (mK a l)):=by have:=NU (k:=mK a l) (st:=a.st) (kind:=3) (num:=mL a) (iss:=(a.secs.length:Int)+1) (own:=1000+mL a) (key:=pw 4 (SY a l)) (fr:=day) (un:=day+90) (td:=day+3740) N h.st ⟨by omega,by omega⟩ ⟨⟨by omega,by omega⟩,⟨by omega,by omega⟩,⟨by omega,by omega⟩,⟨fun _=>by omega,fun _=>by omega⟩⟩ (qD _) ⟨by omega,by omega,by omega,by omega⟩;rw [show(ds.length:Int)=(a.secs.length:Int)by rw [F]];exact this
 have a2:mG (GK a l day) a.st 4 (mL a+1) ((ds.length:Int)+1) (1000+(mL a+1)) (pw 4 (T0 a l)) day (day+365) (day+730) (pw 4 (mK a l)):=by have:=NU (k:=mK a l) (st:=a.st) (kind:=4) (num:=mL a+1) (iss:=(a.secs.length:Int)+1) (own:=1000+(mL a+1)) (key:=pw 4 (T0 a l)) (fr:=day) (un:=day+365) (td:=day+730) N h.st ⟨by omega,by omega⟩ ⟨⟨by omega,by omega⟩,⟨by omega,by omega⟩,⟨by omega,by omega⟩,⟨fun _=>by omega,fun _=>by omega⟩⟩ (qD _) ⟨by omega,by omega,by omega,by omega⟩;rw [show(ds.length:Int)=(a.secs.length:Int)by rw [F]];exact this
 have q:(ds++[day]).length=ds.length+1:=by simp
 have O:(((ds++[day]).length:Nat):Int)=(ds.length:Int)+1:=by rw [q];omega
 refine⟨h.st,?_,by rw [q];omega,?_,?_,?_,?_,?_,?_,?_,?_,?_,?_⟩;· show(a.secs++[_]).length=_;rw [cz,q,F];rfl
 · show 1<=mL a+1+1/\mL a+1+1<=_;rw [O];omega
 · intro d I;rcases List.mem_append.1 I with I | I;(· exact h.days d I);· rw [ah.1 I];exact⟨h0,h1⟩
 · show(a.roots++[_]).length=_;rw [cz,q,h.rlen];rfl
 · show(if a.secs.length=0 then a.links else a.links++[qY a l day]).length=_;rw [q];have:=h.llen;split;(· rename_i a4;rw [this];omega);· rename_i a4;rw [cz,this];show ds.length - 1+1=_;omega
 · intro k G;rcases List.mem_append.1 G with G | G;(· exact h.sec k G);· rw [ah.1 G];exact N
 · intro i c C;rcases GM C with C | ⟨J,rfl⟩;(· obtain⟨k,d,num,Q,U,W,X,Y⟩:=h.rt i c C;exact⟨k,d,num,mU Q,mU U,W,X,Y⟩);· rw [h.rlen]at J;subst J;exact⟨_,_,_,kC _ _ F.symm,kC _ _ rfl,hn.1,by omega,a3⟩
 · intro i c C;by_cases h00:a.secs.length=0;(· have K:(if a.secs.length=0 then a.links else a.links++[qY a l day])[i]?=some c:=C;rw [ax h00]at K;have:=(aq.1 K).1;rw [h.llen]at this;omega);· have K:(if a.secs.length=0 then a.links else a.links++[qY a l day])[i]?=some c:=C;rw [ao h00]at K;rcases GM K with C | ⟨J,rfl⟩;(· obtain⟨k,k',d,num,Q,a5,U,W,X,Y⟩:=h.lk i c C;exact⟨k,k',d,num,mU Q,mU a5,mU U,W,X,Y⟩);· rw [h.llen]at J;have a6:ds.length - 1<a.secs.length:=(by omega);obtain⟨H,a0⟩:∃H,a.secs[ds.length - 1]?=some H:=⟨_,dg a6⟩;have e1:a.secs.getD (a.secs.length - 1) 0=H:=(by rw [F,bj,a0];rfl);have a7:=h.sec H (eu a0);have a8:=NU (k:=H) (st:=a.st) (kind:=2) (num:=a.next+1) (iss:=(a.secs.length:Int)) (own:=(a.secs.length:Int)+1) (key:=pw 4 (mK a l)) (fr:=day) (un:=day+1825) (td:=day+5475) a7 h.st ⟨by omega,by omega⟩ ⟨⟨by omega,by omega⟩,⟨by omega,by omega⟩,⟨by omega,by omega⟩,⟨fun _=>by omega,fun _=>by omega⟩⟩ (qD _) ⟨by omega,by omega,by omega,by omega⟩;subst J;refine⟨H,mK a l,day,a.next+1,mU a0,kC _ _ (by omega),kC _ _ (by omega),by omega,by omega,?_⟩;have ei:(((ds.length - 1:Nat):Int)+1)=(a.secs.length:Int):=(by omega);rw [ei];unfold qY;rw [e1];exact a8
 · intro _;refine⟨mK a l,day,mL a,?_,?_,by omega,by omega,sV _,?_⟩;(· rw [q];exact kC _ _ (by omega));(· rw [q];exact kC _ _ (by omega));· rw [O];exact a1
 · intro _;refine⟨mK a l,day,mL a+1,?_,?_,by omega,by omega,sV _,?_⟩;(· rw [q];exact kC _ _ (by omega));(· rw [q];exact kC _ _ (by omega));· rw [O];exact a2
 · intro _;show(GJ a l day).num≠(GK a l day).num;rw [a1.num,a2.num];omega
theorem XU {a b:NC}{st:List UInt8}{C U W F G H X I Y J nb K ob yb N ub O Q day:Int}(l:mG a st C U W F G H X I Y)(q:mG b st J nb K ob yb N ub O Q)(h1:K=F)(h2:C=1\/C=2)(h3:J≠1)(h4:Q=G)(d1:H<=day)(d2:day<=I)(d3:N<=day)(d4:day<=O):fD day a b=true:=ay ⟨by rw [l.st,q.st],by rw [q.iss,l.own];exact h1,by rw [l.kind];exact h2,by rw [q.kind];exact h3,l.on d1 d2,q.on d3 d4,by rw [l.key,<- h4];exact q.vf⟩
theorem TD {c:NC}{st:List UInt8}{num iss own key fr un td day:Int}(h:mG c st 1 num iss own key fr un td key)(l:fr<=day)(q:day<=td):qX st day c:=⟨h.st,h.on l q,by unfold ik;rw [ax h.kind,h.key];exact h.vf⟩
end Go.Proofs.YtmmoenkmicimcaaGreatDoor
