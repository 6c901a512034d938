/- Parts Za Zb Zd of the proof. -/
import Derived.Test.YtkjplpmogfmhkaaGreatDoorHat
namespace Go.Proofs.YtkjplpmogfmhkaaGreatDoor
open Go.RowKit
set_option linter.unusedVariables false
set_option maxRecDepth 100000
def NC.nums (c:NC):List Int:=[c.kind,c.num,c.iss,c.own,c.key,c.fr,c.un,c.to,c.e,c.s]
theorem NC.tup_inj {a b:NC} (h:a.st=b.st/\a.nums=b.nums):a=b:=by
 cases a;cases b
 simp only [NC.nums,List.cons.injEq,and_true] at h
 obtain ⟨rfl,rfl,rfl,rfl,rfl,rfl,rfl,rfl,rfl,rfl,rfl⟩:=h
 rfl
instance:DecidableEq NC:=fun a b=>decidable_of_iff (a.st=b.st/\a.nums=b.nums) ⟨NC.tup_inj,fun h=>by rw [h];exact ⟨rfl,rfl⟩⟩
def SI (day:Int) (a b:NC):Prop:=a.st=b.st/\b.iss=a.own/\(a.kind=1 \/ a.kind=2)/\b.kind≠1/\onN a day=0/\onN b day=0/\vfN a.key b=true
instance (day:Int) (a b:NC):Decidable (SI day a b):=inferInstanceAs (Decidable (_/\_))
def fG (day:Int) (a b:NC):Bool:=decide (SI day a b)
def oX (st:List UInt8) (day:Int) (c:NC):Prop:=c.st=st/\onN c day=0/\rtN c=true
instance (st:List UInt8) (day:Int) (c:NC):Decidable (oX st day c):=inferInstanceAs (Decidable (_/\_))
def cE (st:List UInt8) (day:Int) (l:List NC) (c:NC):List NC:=if oX st day c/\c ∉ l then l++[c] else l
def bR (roots:List NC) (st:List UInt8) (day:Int):List NC:=roots.foldl (cE st day) []
def DW (day:Int) (out next:List NC) (c:NC):Prop:=c.kind=2/\c ∉ next/\(out.any fun a=>fG day a c)=true
instance (day:Int) (out next:List NC) (c:NC):Decidable (DW day out next c):=inferInstanceAs (Decidable (_/\_))
def dW (day:Int) (out next:List NC) (c:NC):List NC:=if DW day out next c then next++[c] else next
def fA (pool:List NC) (day:Int) (out:List NC):List NC:=pool.foldl (dW day out) out
def iE (pool out:List NC):Nat:=(pool.filter fun c=>decide (c ∉ out)).length
def trT (pool:List NC) (day:Int):Nat->List NC->List NC
 | 0,out=>out
 | n+1,out=>if (fA pool day out).length=out.length then out else trT pool day n (fA pool day out)
def cW (roots pool:List NC) (st:List UInt8) (day:Int):List NC:=trT pool day (pool.length+1) (bR roots st day)
theorem BI (day:Int) (out next:List NC) (c:NC):∃ t,dW day out next c=next++t/\(t=[] \/ (t=[c]/\DW day out next c)):=by
 unfold dW
 split
 · rename_i h
   exact ⟨[c],rfl,.inr ⟨rfl,h⟩⟩
 · exact ⟨[],(List.append_nil _).symm,.inl rfl⟩
theorem sB (day:Int) (out:List NC):∀ (l next:List NC),∃ t,l.foldl (dW day out) next=next++t/\∀ c ∈ t,c ∈ l/\c.kind=2/\c ∉ next/\(out.any fun a=>fG day a c)=true
 | [],next=>⟨[],(List.append_nil _).symm,fun c h=>by cases h⟩
 | x::l,next=>by
   obtain ⟨t1,e1,h1⟩:=BI day out next x
   obtain ⟨t2,e2,h2⟩:=sB day out l (dW day out next x)
   refine ⟨t1++t2,by rw [List.foldl_cons,e2,e1,YW],fun c hc=>?_⟩
   rcases List.mem_append.1 hc with hc | hc
   · rcases h1 with rfl | ⟨rfl,h1⟩
     · cases hc
     · obtain rfl:c=x:=List.mem_singleton.1 hc
       exact ⟨YZ,h1.1,h1.2.1,h1.2.2⟩
   · obtain ⟨q1,q2,q3,q4⟩:=h2 c hc
     exact ⟨ZG _ q1,q2,fun q=>q3 (by rw [e1];exact List.mem_append_left _ q),q4⟩
theorem iL (pool:List NC) (day:Int) (out:List NC):∃ t,fA pool day out=out++t/\∀ c ∈ t,c ∈ pool/\c.kind=2/\c ∉ out/\(out.any fun a=>fG day a c)=true:=sB day out pool out
theorem lG (pool out:List NC):iE pool out<=pool.length:=List.length_filter_le _ _
theorem sC {α:Type} (p q:α->Bool):∀ (l:List α),(∀ x ∈ l,q x=true->p x=true)->(∃ x ∈ l,p x=true/\q x=false)->(l.filter q).length<(l.filter p).length
 | [],_,⟨x,h,_⟩=>by cases h
 | y::l,h,⟨x,hx,hp,hq⟩=>by
   have le:(l.filter q).length<=(l.filter p).length:=by
    have:∀ m:List α,(∀ x ∈ m,q x=true->p x=true)->(m.filter q).length<=(m.filter p).length:=by
     intro m
     induction m with
     | nil=>intro _;exact YF _
     | cons z m IH =>
       intro hm
       have h1:=IH fun x hx=>hm x (ZG _ hx)
       have h2:=hm z YZ
       cases hqz:q z with
       | true=>rw [List.filter_cons_of_pos hqz,List.filter_cons_of_pos (h2 hqz)];exact Nat.succ_le_succ h1
       | false =>
         rw [List.filter_cons_of_neg (by rw [hqz];simp)]
         cases hpz:p z with
         | true=>rw [List.filter_cons_of_pos hpz];exact Nat.le_succ_of_le h1
         | false=>rw [List.filter_cons_of_neg (by rw [hpz];simp)];exact h1
    exact this l fun x hx=>h x (ZG _ hx)
   rcases List.mem_cons.1 hx with rfl | hx
   · rw [List.filter_cons_of_pos hp,List.filter_cons_of_neg (by rw [hq];simp)]
     exact Nat.lt_succ_of_le le
   · have IH:=sC p q l (fun x hx=>h x (ZG _ hx)) ⟨x,hx,hp,hq⟩
     have h2:=h y YZ
     cases hqy:q y with
     | true=>rw [List.filter_cons_of_pos hqy,List.filter_cons_of_pos (h2 hqy)];exact Nat.succ_lt_succ IH
     | false =>
       rw [List.filter_cons_of_neg (by rw [hqy];simp)]
       cases hpy:p y with
       | true=>rw [List.filter_cons_of_pos hpy];exact Nat.lt_succ_of_lt IH
       | false=>rw [List.filter_cons_of_neg (by rw [hpy];simp)];exact IH
theorem wI {pool out:List NC}{day:Int} (h:(fA pool day out).length≠out.length):iE pool (fA pool day out)<iE pool out:=by
 obtain ⟨t,e,ht⟩:=iL pool day out
 rw [e] at h ⊢
 have hne:t≠[]:=fun q=>h (by rw [q];simp)
 obtain ⟨c,hc⟩:=List.exists_mem_of_ne_nil t hne
 obtain ⟨q1,_,q3,_⟩:=ht c hc
 refine sC _ _ pool (fun x _ hx=>?_) ⟨c,q1,decide_eq_true q3,decide_eq_false (fun q=>q (List.mem_append_right _ hc))⟩
 have hx':x ∉ out++t:=of_decide_eq_true hx
 exact decide_eq_true fun q=>hx' (List.mem_append_left _ q)
theorem DX (pool:List NC) (day:Int):∀ (n m:Nat) (out:List NC),iE pool out<n->iE pool out<m->trT pool day n out=trT pool day m out
 | 0,_,_,h,_=>absurd h (Nat.not_lt_zero _)
 | _,0,_,_,h=>absurd h (Nat.not_lt_zero _)
 | n+1,m+1,out,hn,hm=>by
   unfold trT
   by_cases h:(fA pool day out).length=out.length
   · rw [if_pos h,if_pos h]
   · rw [if_neg h,if_neg h]
     have:=wI h
     exact DX pool day n m _ (by omega) (by omega)
def xU (pool:List NC) (day:Int) (out:List NC):List NC:=trT pool day (pool.length+1) out
theorem zD {pool out:List NC}{day:Int} (h:(fA pool day out).length=out.length):xU pool day out=out:=by
 unfold xU trT
 rw [if_pos h]
theorem zE {pool out:List NC}{day:Int} (h:(fA pool day out).length≠out.length):xU pool day out=xU pool day (fA pool day out):=by
 have hl:=wI h
 have h1:=lG pool out
 have h2:=lG pool (fA pool day out)
 have e:xU pool day out=trT pool day pool.length (fA pool day out):=by
  unfold xU
  rw [trT,if_neg h]
 rw [e]
 exact DX pool day _ _ _ (by omega) (by omega)
def sD (day:Int) (L:List NC) (c:NC):Option NC:=L.find? fun a=>fG day a c
inductive BkN (day:Int) (L:List NC):NC->List NC->Prop
 | root {x y:NC}:sD day L x=some y->y.kind=1->BkN day L x [y]
 | step {x y:NC}{b:List NC}:sD day L x=some y->y.kind≠1->BkN day L y b->BkN day L x (y::b)
theorem BkN.det {day:Int}{L:List NC}{x:NC}{b:List NC} (h:BkN day L x b):∀ {b':List NC},BkN day L x b'->b=b':=by
 induction h with
 | root h1 h2 =>
   intro b' h'
   cases h' with
   | root k1 k2=>rw [h1] at k1;injection k1 with k1;rw [k1]
   | step k1 k2 k3=>rw [h1] at k1;injection k1 with k1;subst k1;exact absurd h2 k2
 | step h1 h2 h3 IH =>
   intro b' h'
   cases h' with
   | root k1 k2=>rw [h1] at k1;injection k1 with k1;subst k1;exact absurd k2 h2
   | step k1 k2 k3=>rw [h1] at k1;injection k1 with k1;subst k1;rw [IH k3]
open Classical in
noncomputable def lH (day:Int) (L:List NC) (c:NC):Option (List NC):=if h:∃ b,BkN day L c b then some ((c::Classical.choose h).reverse) else none
theorem OW {day:Int}{L:List NC}{c:NC}{b:List NC} (h:BkN day L c b):lH day L c=some ((c::b).reverse):=by
 have hx:∃ b,BkN day L c b:=⟨b,h⟩
 unfold lH
 rw [dif_pos hx,(Classical.choose_spec hx).det h]
theorem OX {day:Int}{L:List NC}{c:NC} (h:sD day L c=none):lH day L c=none:=by
 unfold lH
 rw [dif_neg]
 rintro ⟨b,hb⟩
 cases hb with
 | root k1 k2=>rw [h] at k1;cases k1
 | step k1 k2 k3=>rw [h] at k1;cases k1
theorem qR {day:Int}{L:List NC}{c y:NC} (h:sD day L c=some y):y ∈ L/\fG day y c=true:=⟨List.mem_of_find?_eq_some h,List.find?_some (p:=fun a=>fG day a c) h⟩
def Lad (day:Int) (L:List NC):Prop:=∀ y ∈ L,y.kind≠1->∃ z,sD day L y=some z/\L.idxOf z<L.idxOf y
theorem OY {α:Type} [BEq α] [LawfulBEq α] {l t:List α}{z:α} (h:z ∈ l):(l++t).idxOf z=l.idxOf z:=by rw [List.idxOf_append,if_pos h]
theorem SJ {α:Type} [BEq α] [LawfulBEq α] {l:List α}{z:α} (h:z ∈ l):l.idxOf z<l.length:=List.idxOf_lt_length_of_mem h
theorem SK {α:Type} [BEq α] [LawfulBEq α] {l t:List α}{z:α} (h:z ∉ l):l.length<=(l++t).idxOf z:=by
 rw [List.idxOf_append,if_neg h]
 omega
theorem DY {p:NC->Bool}{l:List NC}{w:NC} (hw:w ∈ l) (hp:p w=true):∃ z,l.find? p=some z:=by
 cases h:l.find? p with
 | some z=>exact ⟨z,rfl⟩
 | none=>exact absurd hp (by simpa using List.find?_eq_none.1 h w hw)
theorem Lad.back {day:Int}{L:List NC} (h:Lad day L):∀ (n:Nat) (y:NC),y ∈ L->y.kind≠1->L.idxOf y<n->∃ b,BkN day L y b
 | 0,_,_,_,hn=>absurd hn (Nat.not_lt_zero _)
 | n+1,y,hy,hk,hn=>by
   obtain ⟨z,hz,hlt⟩:=h y hy hk
   by_cases h1:z.kind=1
   · exact ⟨_,.root hz h1⟩
   · obtain ⟨b,hb⟩:=h.back n z (qR hz).1 h1 (by omega)
     exact ⟨_,.step hz h1 hb⟩
theorem BJ {l t:List NC}{z:NC} (h:z ∈ l):(l++t).idxOf z=l.idxOf z:=OY h
theorem G9 {l:List NC}{z:NC} (h:z ∈ l):l.idxOf z<l.length:=SJ h
theorem VC {l t:List NC}{z:NC} (h:z ∉ l):l.length<=(l++t).idxOf z:=SK h
theorem SL {day:Int}{out t:List NC} (h:Lad day out) (ht:∀ c ∈ t,c ∉ out/\(out.any fun a=>fG day a c)=true):Lad day (out++t):=by
 intro y hy hk
 by_cases ho:y ∈ out
 · obtain ⟨z,hz,hlt⟩:=h y ho hk
   refine ⟨z,?_,by rw [BJ (qR hz).1,BJ ho];exact hlt⟩
   unfold sD at hz ⊢
   rw [List.find?_append,hz]
   rfl
 · have hyt:y ∈ t:=(List.mem_append.1 hy).resolve_left ho
   obtain ⟨_,ha⟩:=ht y hyt
   obtain ⟨w,hw,hf⟩:=List.any_eq_true.1 ha
   obtain ⟨z,hz⟩:=DY (p:=fun a=>fG day a y) hw hf
   refine ⟨z,?_,?_⟩
   · unfold sD
     rw [List.find?_append,hz]
     rfl
   · have hzm:=List.mem_of_find?_eq_some hz
     rw [BJ hzm]
     exact YX (G9 hzm) (VC ho)
theorem MH {day:Int}{pool out:List NC} (h:Lad day out):Lad day (fA pool day out):=by
 obtain ⟨t,e,ht⟩:=iL pool day out
 rw [e]
 exact SL h fun c hc=>⟨(ht c hc).2.2.1,(ht c hc).2.2.2⟩
theorem P3 {day:Int}{pool:List NC}:∀ (n:Nat) (out:List NC),Lad day out->Lad day (trT pool day n out)
 | 0,_,h=>h
 | n+1,out,h=>by
   unfold trT
   split
   · exact h
   · exact P3 n _ (MH h)
theorem BK {c:NC} (h:rtN c=true):c.kind=1/\vfN c.key c=true:=by
 unfold rtN at h
 split at h
 · rename_i q
   exact ⟨q,h⟩
 · cases h
theorem qS (st:List UInt8) (day:Int):∀ (l acc:List NC),∀ c ∈ l.foldl (cE st day) acc,c ∈ acc \/ (c ∈ l/\oX st day c)
 | [],acc,c,hc=>.inl hc
 | x::l,acc,c,hc=>by
   rcases qS st day l _ c hc with h | h
   · unfold cE at h
     split at h
     · rename_i q
       rcases List.mem_append.1 h with h | h
       · exact .inl h
       · obtain rfl:=List.mem_singleton.1 h
         exact .inr ⟨YZ,q.1⟩
     · exact .inl h
   · exact .inr ⟨ZG _ h.1,h.2⟩
theorem iM {roots:List NC}{st:List UInt8}{day:Int}{c:NC} (h:c ∈ bR roots st day):c ∈ roots/\oX st day c :=
 (qS st day roots [] c h).resolve_left (by simp)
theorem wJ {st:List UInt8}{day:Int}{acc:List NC}{x c:NC} (h:c ∈ acc):c ∈ cE st day acc x:=by
 unfold cE
 split
 · exact List.mem_append_left _ h
 · exact h
theorem tF (st:List UInt8) (day:Int):∀ (l acc:List NC) (c:NC),c ∈ acc->c ∈ l.foldl (cE st day) acc
 | [],_,_,h=>h
 | x::l,acc,c,h=>tF st day l _ c (wJ h)
theorem wK (st:List UInt8) (day:Int):∀ (l acc:List NC) (c:NC),c ∈ l->oX st day c->c ∈ l.foldl (cE st day) acc
 | x::l,acc,c,h,hp=>by
   rcases List.mem_cons.1 h with rfl | h
   · refine tF st day l _ c ?_
     unfold cE
     by_cases hm:c ∈ acc
     · rw [if_neg (fun q=>q.2 hm)];exact hm
     · rw [if_pos ⟨hp,hm⟩];exact List.mem_append_right _ YZ
   · exact wK st day l _ c h hp
theorem wL {roots:List NC}{st:List UInt8}{day:Int}{c:NC}:c ∈ bR roots st day ↔ c ∈ roots/\oX st day c :=
 ⟨iM,fun h=>wK st day roots [] c h.1 h.2⟩
theorem MI (roots:List NC) (st:List UInt8) (day:Int):Lad day (bR roots st day):=fun y hy hk=>absurd (BK (iM hy).2.2.2).1 hk
theorem MJ (roots pool:List NC) (st:List UInt8) (day:Int):Lad day (cW roots pool st day):=P3 _ _ (MI _ _ _)
theorem KJ (pool:List NC) (day:Int):∀ (n:Nat) (out:List NC),∃ t,trT pool day n out=out++t/\∀ c ∈ t,c ∈ pool/\c.kind=2
 | 0,out=>⟨[],(List.append_nil _).symm,fun c h=>by cases h⟩
 | n+1,out=>by
   unfold trT
   split
   · exact ⟨[],(List.append_nil _).symm,fun c h=>by cases h⟩
   · obtain ⟨t1,e1,h1⟩:=iL pool day out
     obtain ⟨t2,e2,h2⟩:=KJ pool day n (fA pool day out)
     refine ⟨t1++t2,by rw [e2,e1,YW],fun c hc=>?_⟩
     rcases List.mem_append.1 hc with hc | hc
     · exact ⟨(h1 c hc).1,(h1 c hc).2.1⟩
     · exact h2 c hc
theorem sF (roots pool:List NC) (st:List UInt8) (day:Int):∃ t,cW roots pool st day=bR roots st day++t/\∀ c ∈ t,c ∈ pool/\c.kind=2:=KJ pool day _ _
theorem MK {roots pool:List NC}{st:List UInt8}{day:Int}{c:NC} (h:c ∈ cW roots pool st day):(c ∈ roots/\oX st day c/\c.kind=1) \/ (c ∈ pool/\c.kind=2):=by
 obtain ⟨t,e,ht⟩:=sF roots pool st day
 rw [e] at h
 rcases List.mem_append.1 h with h | h
 · have:=iM h
   exact .inl ⟨this.1,this.2,(BK this.2.2.2).1⟩
 · exact .inr (ht c h)
def chainB (day:Int):List NC->Bool
 | a::b::l=>fG day a b && chainB day (b::l)
 | _=>true
def jF:List UInt8:=[85,84,79]
def VD:List UInt8:=[68]
def VE:List UInt8:=[88,79,77]
def VF:List UInt8:=[90,90,90]
def gZ (n:Int):List UInt8:=if fL n 4=0 then jF else if fL n 4=1 then VD else if fL n 4=2 then VE else VF
theorem wM:cC jF:=by decide
theorem ML:cC VD:=by decide
theorem MM (n:Int):cC (gZ n):=by
 unfold gZ
 split
 · exact wM
 · split
   · exact ML
   · split
     · exact (by decide:cC VE)
     · exact (by decide:cC VF)
def GA (k:Int) (st:List UInt8) (kind num iss own key fr un td:Int):NC:=qH k ⟨st,kind,num,iss,own,key,fr,un,td,0,0⟩
structure mC (c:NC) (st:List UInt8) (kind num iss own key fr un td p:Int):Prop where
 ck:ckN c=0
 st:c.st=st
 kind:c.kind=kind
 num:c.num=num
 iss:c.iss=iss
 own:c.own=own
 key:c.key=key
 fr:c.fr=fr
 un:c.un=un
 tdd:c.to=td
 vf:vfN p c=true
theorem KM {k:Int}{st:List UInt8}{kind num iss own key fr un td:Int} (hk:inB 1 1073741789 k=true) (h1:cC st) (h2:1<=kind/\kind<=4) (h3:oV num iss own kind) (h4:cJ key=true) (h5:zA fr un td) :
 mC (GA k st kind num iss own key fr un td) st kind num iss own key fr un td (pw 4 k):=by
 have hc:ckN ⟨st,kind,num,iss,own,key,fr,un,td,0,0⟩=0:=BA h1 (by show ¬ (kind<1 \/ 4<kind);omega) h3 h4 h5
 have hv:=MC hk hc
 have hw:=(BE hk hc).1
 unfold GA
 rw [BC hk hc] at hv hw ⊢
 exact ⟨hw,rfl,rfl,rfl,rfl,rfl,rfl,rfl,rfl,rfl,hv⟩
theorem sG {k:Int}{st:List UInt8}{kind num iss own key fr un td:Int}{c:NC} (h:mC c st kind num iss own key fr un td k):smN c:=vZ h.ck
theorem mC.on {c:NC}{st:List UInt8}{kind num iss own key fr un td p day:Int} (h:mC c st kind num iss own key fr un td p) (h1:fr<=day) (h2:day<=td):onN c day=0:=by
 unfold onN
 rw [if_pos h.ck,if_neg (by rw [h.fr];omega),if_neg (by rw [h.tdd];omega)]
structure AU where
 st:List UInt8
 next:Int
 roots:List NC
 links:List NC
 secs:List Int
 sg:NC
 ls:NC
 ssec:Int
 lsec:Int
def kT (a:AU) (seed:Int):Int:=iD (seed*97+(a.secs.length:Int)*13)
def P4 (a:AU) (seed:Int):Int:=iD (seed*89+(a.secs.length:Int)*7+1)
def P5 (a:AU) (seed:Int):Int:=iD (seed*83+(a.secs.length:Int)*5+2)
def kU (a:AU):Int:=if a.secs.length=0 then a.next+1 else a.next+1+1
def KO (a:AU) (seed day:Int):NC:=GA (kT a seed) a.st 1 a.next ((a.secs.length:Int)+1) ((a.secs.length:Int)+1) (pw 4 (kT a seed)) day (day+1825) (day+5475)
def oY (a:AU) (seed day:Int):NC:=GA (a.secs.getD (a.secs.length - 1) 0) a.st 2 (a.next+1) (a.secs.length:Int) ((a.secs.length:Int)+1) (pw 4 (kT a seed)) day (day+1825) (day+5475)
def DZ (a:AU) (seed day:Int):NC:=GA (kT a seed) a.st 3 (kU a) ((a.secs.length:Int)+1) (1000+kU a) (pw 4 (P4 a seed)) day (day+90) (day+3740)
def E0 (a:AU) (seed day:Int):NC:=GA (kT a seed) a.st 4 (kU a+1) ((a.secs.length:Int)+1) (1000+(kU a+1)) (pw 4 (P5 a seed)) day (day+365) (day+730)
def E2 (a:AU) (seed day:Int):AU :=
 ⟨a.st,kU a+1+1,a.roots++[KO a seed day],(if a.secs.length=0 then a.links else a.links++[oY a seed day]),a.secs++[kT a seed],DZ a seed day,E0 a seed day,P4 a seed,P5 a seed⟩
def P6 (st:List UInt8):AU:=⟨st,1,[],[],[],fZ,fZ,0,0⟩
theorem qT (x:Int):inB 1 1073741789 (iD x)=true:=JU x
theorem oG (x:Int):cJ (pw 4 (iD x))=true:=by
 obtain ⟨h0,h1⟩:=dV (qT x)
 exact CY h0 h1
structure AuI (a:AU) (ds:List Int):Prop where
 st:cC a.st
 len:a.secs.length=ds.length
 le:ds.length<=8
 next:1<=a.next/\a.next<=1+4*(ds.length:Int)
 days:∀ d ∈ ds,40000<=d/\d<=42000
 rlen:a.roots.length=ds.length
 llen:a.links.length=ds.length - 1
 sec:∀ k ∈ a.secs,inB 1 1073741789 k=true
 rt:∀ (i:Nat) (c:NC),a.roots[i]?=some c->∃ k d num:Int,a.secs[i]?=some k/\ds[i]?=some d/\1<=num/\num<=100/\mC c a.st 1 num ((i:Int)+1) ((i:Int)+1) (pw 4 k) d (d+1825) (d+5475) (pw 4 k)
 lk:∀ (i:Nat) (c:NC),a.links[i]?=some c->∃ k k' d num:Int,a.secs[i]?=some k/\a.secs[i+1]?=some k'/\ds[i+1]?=some d/\1<=num/\num<=100/\mC c a.st 2 num ((i:Int)+1) ((i:Int)+1+1) (pw 4 k') d (d+1825) (d+5475) (pw 4 k)
 sg:ds≠[]->∃ k d num:Int,a.secs[ds.length - 1]?=some k/\ds[ds.length - 1]?=some d/\1<=num/\num<=100/\inB 1 1073741789 a.ssec=true/\mC a.sg a.st 3 num (ds.length:Int) (1000+num) (pw 4 a.ssec) d (d+90) (d+3740) (pw 4 k)
 ls:ds≠[]->∃ k d num:Int,a.secs[ds.length - 1]?=some k/\ds[ds.length - 1]?=some d/\1<=num/\num<=100/\inB 1 1073741789 a.lsec=true/\mC a.ls a.st 4 num (ds.length:Int) (1000+num) (pw 4 a.lsec) d (d+365) (d+730) (pw 4 k)
 ne:ds≠[]->a.sg.num≠a.ls.num
theorem P7 {st:List UInt8} (h:cC st):AuI (P6 st) [] :=
 ⟨h,rfl,YK _,⟨by show (1:Int)<=1;omega,by show (1:Int)<=1+4*0;omega⟩,fun d hd=>(by cases hd),rfl,rfl,fun k hk=>(by cases hk),fun i c hc=>(by cases hc),fun i c hc=>(by cases hc),fun q=>absurd rfl q,fun q=>absurd rfl q,fun q=>absurd rfl q⟩
theorem E3 {α:Type}{l:List α}{x y:α}{i:Nat} (h:(l++[x])[i]?=some y):l[i]?=some y \/ (i=l.length/\y=x):=by
 by_cases hi:i<l.length
 · rw [List.getElem?_append_left hi] at h
   exact .inl h
 · rw [List.getElem?_append_right (by omega)] at h
   have h0:i - l.length=0:=by
    have:=(List.getElem?_eq_some_iff.1 h).1
    simpa using this
   rw [h0] at h
   exact .inr ⟨by omega,(Option.some.inj h).symm⟩
theorem lI {α:Type}{l:List α}{x y:α}{i:Nat} (h:l[i]?=some y):(l++[x])[i]?=some y:=by
 rw [List.getElem?_append_left (List.getElem?_eq_some_iff.1 h).1]
 exact h
theorem j0 {α:Type} (l:List α) (x:α) {n:Nat} (h:n=l.length):(l++[x])[n]?=some x:=by
 subst h
 simp
theorem SN (a:AU):kU a=a.next+1 \/ kU a=a.next+1+1:=by
 unfold kU
 split
 · exact .inl rfl
 · exact .inr rfl
theorem SP {a:AU}{ds:List Int} (h:AuI a ds) (seed:Int) {day:Int} (h0:40000<=day) (h1:day<=42000) (h8:ds.length<8):AuI (E2 a seed day) (ds++[day]):=by
 have hn:=h.next
 have hk:=SN a
 have hl:=h.len
 have hle:(a.secs.length:Int)<=7:=by rw [hl];omega
 have kin:inB 1 1073741789 (kT a seed)=true:=qT _
 have hroot:mC (KO a seed day) a.st 1 a.next ((ds.length:Int)+1) ((ds.length:Int)+1) (pw 4 (kT a seed)) day (day+1825) (day+5475) (pw 4 (kT a seed)):=by
  have:=KM (k:=kT a seed) (st:=a.st) (kind:=1) (num:=a.next) (iss:=(a.secs.length:Int)+1) (own:=(a.secs.length:Int)+1) (key:=pw 4 (kT a seed)) (fr:=day) (un:=day+1825) (td:=day+5475) kin h.st ⟨by omega,by omega⟩
   ⟨⟨by omega,by omega⟩,⟨by omega,by omega⟩,⟨by omega,by omega⟩,⟨fun _=>rfl,fun _=>rfl⟩⟩ (oG _) ⟨by omega,by omega,by omega,by omega⟩
  rw [show (ds.length:Int)=(a.secs.length:Int) by rw [hl]]
  exact this
 have hsign:mC (DZ a seed day) a.st 3 (kU a) ((ds.length:Int)+1) (1000+kU a) (pw 4 (P4 a seed)) day (day+90) (day+3740) (pw 4 (kT a seed)):=by
  have:=KM (k:=kT a seed) (st:=a.st) (kind:=3) (num:=kU a) (iss:=(a.secs.length:Int)+1) (own:=1000+kU a) (key:=pw 4 (P4 a seed)) (fr:=day) (un:=day+90) (td:=day+3740) kin h.st ⟨by omega,by omega⟩
   ⟨⟨by omega,by omega⟩,⟨by omega,by omega⟩,⟨by omega,by omega⟩,⟨fun _=>by omega,fun _=>by omega⟩⟩ (oG _) ⟨by omega,by omega,by omega,by omega⟩
  rw [show (ds.length:Int)=(a.secs.length:Int) by rw [hl]]
  exact this
 have hlist:mC (E0 a seed day) a.st 4 (kU a+1) ((ds.length:Int)+1) (1000+(kU a+1)) (pw 4 (P5 a seed)) day (day+365) (day+730) (pw 4 (kT a seed)):=by
  have:=KM (k:=kT a seed) (st:=a.st) (kind:=4) (num:=kU a+1) (iss:=(a.secs.length:Int)+1) (own:=1000+(kU a+1)) (key:=pw 4 (P5 a seed)) (fr:=day) (un:=day+365) (td:=day+730) kin h.st ⟨by omega,by omega⟩
   ⟨⟨by omega,by omega⟩,⟨by omega,by omega⟩,⟨by omega,by omega⟩,⟨fun _=>by omega,fun _=>by omega⟩⟩ (oG _) ⟨by omega,by omega,by omega,by omega⟩
  rw [show (ds.length:Int)=(a.secs.length:Int) by rw [hl]]
  exact this
 have el:(ds++[day]).length=ds.length+1:=by simp
 have ec:(((ds++[day]).length:Nat):Int)=(ds.length:Int)+1:=by rw [el];omega
 refine ⟨h.st,?_,by rw [el];omega,?_,?_,?_,?_,?_,?_,?_,?_,?_,?_⟩
 · show (a.secs++[_]).length=_
   rw [YJ,el,hl]
   rfl
 · show 1<=kU a+1+1/\kU a+1+1<=_
   rw [ec]
   omega
 · intro d hd
   rcases List.mem_append.1 hd with hd | hd
   · exact h.days d hd
   · rw [List.mem_singleton.1 hd];exact ⟨h0,h1⟩
 · show (a.roots++[_]).length=_
   rw [YJ,el,h.rlen]
   rfl
 · show (if a.secs.length=0 then a.links else a.links++[oY a seed day]).length=_
   rw [el]
   have:=h.llen
   split
   · rename_i q
     rw [this];omega
   · rename_i q
     rw [YJ,this]
     show ds.length - 1+1=_
     omega
 · intro k hk
   rcases List.mem_append.1 hk with hk | hk
   · exact h.sec k hk
   · rw [List.mem_singleton.1 hk];exact kin
 · intro i c hc
   rcases E3 hc with hc | ⟨hi,rfl⟩
   · obtain ⟨k,d,num,q1,q2,q3,q4,q5⟩:=h.rt i c hc
     exact ⟨k,d,num,lI q1,lI q2,q3,q4,q5⟩
   · rw [h.rlen] at hi
     subst hi
     exact ⟨_,_,_,j0 _ _ hl.symm,j0 _ _ rfl,hn.1,by omega,hroot⟩
 · intro i c hc
   by_cases h00:a.secs.length=0
   · have hc':(if a.secs.length=0 then a.links else a.links++[oY a seed day])[i]?=some c:=hc
     rw [if_pos h00] at hc'
     have:=(List.getElem?_eq_some_iff.1 hc').1
     rw [h.llen] at this
     omega
   · have hc':(if a.secs.length=0 then a.links else a.links++[oY a seed day])[i]?=some c:=hc
     rw [if_neg h00] at hc'
     rcases E3 hc' with hc | ⟨hi,rfl⟩
     · obtain ⟨k,k',d,num,q1,q1',q2,q3,q4,q5⟩:=h.lk i c hc
       exact ⟨k,k',d,num,lI q1,lI q1',lI q2,q3,q4,q5⟩
     · rw [h.llen] at hi
       have hsl:ds.length - 1<a.secs.length:=by omega
       obtain ⟨ko,hko⟩:∃ ko,a.secs[ds.length - 1]?=some ko:=⟨_,YL hsl⟩
       have e1:a.secs.getD (a.secs.length - 1) 0=ko:=by rw [hl,List.getD_eq_getElem?_getD,hko];rfl
       have kin0:=h.sec ko (YS hko)
       have hlink:=KM (k:=ko) (st:=a.st) (kind:=2) (num:=a.next+1) (iss:=(a.secs.length:Int)) (own:=(a.secs.length:Int)+1) (key:=pw 4 (kT a seed)) (fr:=day) (un:=day+1825) (td:=day+5475) kin0 h.st ⟨by omega,by omega⟩
        ⟨⟨by omega,by omega⟩,⟨by omega,by omega⟩,⟨by omega,by omega⟩,⟨fun _=>by omega,fun _=>by omega⟩⟩ (oG _) ⟨by omega,by omega,by omega,by omega⟩
       subst hi
       refine ⟨ko,kT a seed,day,a.next+1,lI hko,j0 _ _ (by omega),j0 _ _ (by omega),by omega,by omega,?_⟩
       have ei:(((ds.length - 1:Nat):Int)+1)=(a.secs.length:Int):=by omega
       rw [ei]
       unfold oY
       rw [e1]
       exact hlink
 · intro _
   refine ⟨kT a seed,day,kU a,?_,?_,by omega,by omega,qT _,?_⟩
   · rw [el];exact j0 _ _ (by omega)
   · rw [el];exact j0 _ _ (by omega)
   · rw [ec];exact hsign
 · intro _
   refine ⟨kT a seed,day,kU a+1,?_,?_,by omega,by omega,qT _,?_⟩
   · rw [el];exact j0 _ _ (by omega)
   · rw [el];exact j0 _ _ (by omega)
   · rw [ec];exact hlist
 · intro _
   show (DZ a seed day).num≠(E0 a seed day).num
   rw [hsign.num,hlist.num]
   omega
theorem E4 {c:NC}{st:List UInt8}{num iss own key fr un td day:Int} (h:mC c st 1 num iss own key fr un td key) (d1:fr<=day) (d2:day<=td):oX st day c :=
 ⟨h.st,h.on d1 d2,by unfold rtN;rw [if_pos h.kind,h.key];exact h.vf⟩
end Go.Proofs.YtkjplpmogfmhkaaGreatDoor
