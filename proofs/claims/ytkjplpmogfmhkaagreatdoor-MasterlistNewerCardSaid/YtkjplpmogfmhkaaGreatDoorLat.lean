/- Parts Za Zb Jl Pks of the proof. -/
import Derived.Test.YtkjplpmogfmhkaaGreatDoorLas
import Derived.Test.YtkjplpmogfmhkaaGreatDoorLar
import Derived.Test.YtkjplpmogfmhkaaGreatDoorLaa
namespace Go.Proofs.YtkjplpmogfmhkaaGreatDoor
open Go.RowKit
set_option linter.unusedVariables false
set_option maxRecDepth 100000
def NC.nums (c:NC):List Int:=[c.kind,c.num,c.iss,c.own,c.key,c.fr,c.un,c.to,c.e,c.s]
theorem NC.tup_inj {a b:NC} (h:a.st=b.st∧a.nums=b.nums):a=b:=by
 cases a;cases b
 simp only [NC.nums,List.cons.injEq,and_true] at h
 obtain ⟨rfl,rfl,rfl,rfl,rfl,rfl,rfl,rfl,rfl,rfl,rfl⟩:=h
 rfl
instance:DecidableEq NC:=fun a b=>decidable_of_iff (a.st=b.st∧a.nums=b.nums) ⟨NC.tup_inj,fun h=>by rw [h];exact ⟨rfl,rfl⟩⟩
def PJ (day:Int) (a b:NC):Prop:=a.st=b.st∧b.iss=a.own∧(a.kind=1 ∨ a.kind=2)∧b.kind≠1∧onN a day=0∧onN b day=0∧vfN a.key b=true
instance (day:Int) (a b:NC):Decidable (PJ day a b):=inferInstanceAs (Decidable (_∧_))
def eM (day:Int) (a b:NC):Bool:=decide (PJ day a b)
def oK (st:List UInt8) (day:Int) (c:NC):Prop:=c.st=st∧onN c day=0∧rtN c=true
instance (st:List UInt8) (day:Int) (c:NC):Decidable (oK st day c):=inferInstanceAs (Decidable (_∧_))
def cD (st:List UInt8) (day:Int) (l:List NC) (c:NC):List NC:=if oK st day c∧c ∉ l then l++[c] else l
def bN (roots:List NC) (st:List UInt8) (day:Int):List NC:=roots.foldl (cD st day) []
def CB (day:Int) (out next:List NC) (c:NC):Prop:=c.kind=2∧c ∉ next∧(out.any fun a=>eM day a c)=true
instance (day:Int) (out next:List NC) (c:NC):Decidable (CB day out next c):=inferInstanceAs (Decidable (_∧_))
def dW (day:Int) (out next:List NC) (c:NC):List NC:=if CB day out next c then next++[c] else next
def fI (pool:List NC) (day:Int) (out:List NC):List NC:=pool.foldl (dW day out) out
def iG (pool out:List NC):Nat:=(pool.filter fun c=>decide (c ∉ out)).length
def trT (pool:List NC) (day:Int):Nat→List NC→List NC
 | 0,out=>out
 | n+1,out=>if (fI pool day out).length=out.length then out else trT pool day n (fI pool day out)
def dB (roots pool:List NC) (st:List UInt8) (day:Int):List NC:=trT pool day (pool.length+1) (bN roots st day)
theorem zK (day:Int) (out next:List NC) (c:NC):∃ t,dW day out next c=next++t∧(t=[] ∨ (t=[c]∧CB day out next c)):=by
 unfold dW
 split
 · rename_i h
   exact ⟨[c],rfl,.inr ⟨rfl,h⟩⟩
 · exact ⟨[],(List.append_nil _).symm,.inl rfl⟩
theorem rD (day:Int) (out:List NC):∀ (l next:List NC),∃ t,l.foldl (dW day out) next=next++t∧∀ c ∈ t,c ∈ l∧c.kind=2∧c ∉ next∧(out.any fun a=>eM day a c)=true
 | [],next=>⟨[],(List.append_nil _).symm,fun c h=>by cases h⟩
 | x::l,next=>by
   obtain ⟨t1,e1,h1⟩:=zK day out next x
   obtain ⟨t2,e2,h2⟩:=rD day out l (dW day out next x)
   refine ⟨t1++t2,by rw [List.foldl_cons,e2,e1,VF],fun c hc=>?_⟩
   rcases List.mem_append.1 hc with hc | hc
   · rcases h1 with rfl | ⟨rfl,h1⟩
     · cases hc
     · obtain rfl:c=x:=List.mem_singleton.1 hc
       exact ⟨VM,h1.1,h1.2.1,h1.2.2⟩
   · obtain ⟨q1,q2,q3,q4⟩:=h2 c hc
     exact ⟨VQ _ q1,q2,fun q=>q3 (by rw [e1];exact List.mem_append_left _ q),q4⟩
theorem iK (pool:List NC) (day:Int) (out:List NC):∃ t,fI pool day out=out++t∧∀ c ∈ t,c ∈ pool∧c.kind=2∧c ∉ out∧(out.any fun a=>eM day a c)=true:=rD day out pool out
theorem lG (pool out:List NC):iG pool out≤pool.length:=List.length_filter_le _ _
theorem rE {α:Type} (p q:α→Bool):∀ (l:List α),(∀ x ∈ l,q x=true→p x=true)→(∃ x ∈ l,p x=true∧q x=false)→(l.filter q).length<(l.filter p).length
 | [],_,⟨x,h,_⟩=>by cases h
 | y::l,h,⟨x,hx,hp,hq⟩=>by
   have le:(l.filter q).length≤(l.filter p).length:=by
    have:∀ m:List α,(∀ x ∈ m,q x=true→p x=true)→(m.filter q).length≤(m.filter p).length:=by
     intro m
     induction m with
     | nil=>intro _;exact UX _
     | cons z m IH =>
       intro hm
       have h1:=IH fun x hx=>hm x (VQ _ hx)
       have h2:=hm z VM
       cases hqz:q z with
       | true=>rw [List.filter_cons_of_pos hqz,List.filter_cons_of_pos (h2 hqz)];exact Nat.succ_le_succ h1
       | false =>
         rw [List.filter_cons_of_neg (by rw [hqz];simp)]
         cases hpz:p z with
         | true=>rw [List.filter_cons_of_pos hpz];exact Nat.le_succ_of_le h1
         | false=>rw [List.filter_cons_of_neg (by rw [hpz];simp)];exact h1
    exact this l fun x hx=>h x (VQ _ hx)
   rcases List.mem_cons.1 hx with rfl | hx
   · rw [List.filter_cons_of_pos hp,List.filter_cons_of_neg (by rw [hq];simp)]
     exact Nat.lt_succ_of_le le
   · have IH:=rE p q l (fun x hx=>h x (VQ _ hx)) ⟨x,hx,hp,hq⟩
     have h2:=h y VM
     cases hqy:q y with
     | true=>rw [List.filter_cons_of_pos hqy,List.filter_cons_of_pos (h2 hqy)];exact Nat.succ_lt_succ IH
     | false =>
       rw [List.filter_cons_of_neg (by rw [hqy];simp)]
       cases hpy:p y with
       | true=>rw [List.filter_cons_of_pos hpy];exact Nat.lt_succ_of_lt IH
       | false=>rw [List.filter_cons_of_neg (by rw [hpy];simp)];exact IH
theorem vG {pool out:List NC}{day:Int} (h:(fI pool day out).length≠out.length):iG pool (fI pool day out)<iG pool out:=by
 obtain ⟨t,e,ht⟩:=iK pool day out
 rw [e] at h ⊢
 have hne:t≠[]:=fun q=>h (by rw [q];simp)
 obtain ⟨c,hc⟩:=List.exists_mem_of_ne_nil t hne
 obtain ⟨q1,_,q3,_⟩:=ht c hc
 refine rE _ _ pool (fun x _ hx=>?_) ⟨c,q1,decide_eq_true q3,decide_eq_false (fun q=>q (List.mem_append_right _ hc))⟩
 have hx':x ∉ out++t:=of_decide_eq_true hx
 exact decide_eq_true fun q=>hx' (List.mem_append_left _ q)
theorem CC (pool:List NC) (day:Int):∀ (n m:Nat) (out:List NC),iG pool out<n→iG pool out<m→trT pool day n out=trT pool day m out
 | 0,_,_,h,_=>absurd h (Nat.not_lt_zero _)
 | _,0,_,_,h=>absurd h (Nat.not_lt_zero _)
 | n+1,m+1,out,hn,hm=>by
   unfold trT
   by_cases h:(fI pool day out).length=out.length
   · rw [if_pos h,if_pos h]
   · rw [if_neg h,if_neg h]
     have:=vG h
     exact CC pool day n m _ (by omega) (by omega)
def wW (pool:List NC) (day:Int) (out:List NC):List NC:=trT pool day (pool.length+1) out
theorem xY {pool out:List NC}{day:Int} (h:(fI pool day out).length=out.length):wW pool day out=out:=by
 unfold wW trT
 rw [if_pos h]
theorem xZ {pool out:List NC}{day:Int} (h:(fI pool day out).length≠out.length):wW pool day out=wW pool day (fI pool day out):=by
 have hl:=vG h
 have h1:=lG pool out
 have h2:=lG pool (fI pool day out)
 have e:wW pool day out=trT pool day pool.length (fI pool day out):=by
  unfold wW
  rw [trT,if_neg h]
 rw [e]
 exact CC pool day _ _ _ (by omega) (by omega)
def lH (day:Int) (L:List NC) (c:NC):Option NC:=L.find? fun a=>eM day a c
inductive BkN (day:Int) (L:List NC):NC→List NC→Prop
 | root {x y:NC}:lH day L x=some y→y.kind=1→BkN day L x [y]
 | step {x y:NC}{b:List NC}:lH day L x=some y→y.kind≠1→BkN day L y b→BkN day L x (y::b)
theorem BkN.det {day:Int}{L:List NC}{x:NC}{b:List NC} (h:BkN day L x b):∀ {b':List NC},BkN day L x b'→b=b':=by
 induction h with
 | root h1 h2 =>
   intro b' h'
   cases h' with
   | root k1 k2=>rw [h1] at k1;injection k1 with k1;rw [k1]
   | step k1 k2 k3=>rw [h1] at k1;injection k1 with k1;subst k1;exact absurd h2 k2
 | step h1 h2 h3 IH =>
   intro b' h'
   cases h' with
   | root k1 k2=>rw [h1] at k1;injection k1 with k1;subst k1;exact absurd k2 h2
   | step k1 k2 k3=>rw [h1] at k1;injection k1 with k1;subst k1;rw [IH k3]
open Classical in
noncomputable def iZ (day:Int) (L:List NC) (c:NC):Option (List NC):=if h:∃ b,BkN day L c b then some ((c::Classical.choose h).reverse) else none
theorem CD {day:Int}{L:List NC}{c:NC}{b:List NC} (h:BkN day L c b):iZ day L c=some ((c::b).reverse):=by
 have hx:∃ b,BkN day L c b:=⟨b,h⟩
 unfold iZ
 rw [dif_pos hx,(Classical.choose_spec hx).det h]
theorem vH {day:Int}{L:List NC}{c:NC} (h:lH day L c=none):iZ day L c=none:=by
 unfold iZ
 rw [dif_neg]
 rintro ⟨b,hb⟩
 cases hb with
 | root k1 k2=>rw [h] at k1;cases k1
 | step k1 k2 k3=>rw [h] at k1;cases k1
theorem mQ {day:Int}{L:List NC}{c y:NC} (h:lH day L c=some y):y ∈ L∧eM day y c=true:=⟨List.mem_of_find?_eq_some h,List.find?_some (p:=fun a=>eM day a c) h⟩
def Lad (day:Int) (L:List NC):Prop:=∀ y ∈ L,y.kind≠1→∃ z,lH day L y=some z∧L.idxOf z<L.idxOf y
theorem MF {α:Type} [BEq α] [LawfulBEq α] {l t:List α}{z:α} (h:z ∈ l):(l++t).idxOf z=l.idxOf z:=by rw [List.idxOf_append,if_pos h]
theorem PK {α:Type} [BEq α] [LawfulBEq α] {l:List α}{z:α} (h:z ∈ l):l.idxOf z<l.length:=List.idxOf_lt_length_of_mem h
theorem PL {α:Type} [BEq α] [LawfulBEq α] {l t:List α}{z:α} (h:z ∉ l):l.length≤(l++t).idxOf z:=by
 rw [List.idxOf_append,if_neg h]
 omega
theorem sH {p:NC→Bool}{l:List NC}{w:NC} (hw:w ∈ l) (hp:p w=true):∃ z,l.find? p=some z:=by
 cases h:l.find? p with
 | some z=>exact ⟨z,rfl⟩
 | none=>exact absurd hp (by simpa using List.find?_eq_none.1 h w hw)
theorem Lad.back {day:Int}{L:List NC} (h:Lad day L):∀ (n:Nat) (y:NC),y ∈ L→y.kind≠1→L.idxOf y<n→∃ b,BkN day L y b
 | 0,_,_,_,hn=>absurd hn (Nat.not_lt_zero _)
 | n+1,y,hy,hk,hn=>by
   obtain ⟨z,hz,hlt⟩:=h y hy hk
   by_cases h1:z.kind=1
   · exact ⟨_,.root hz h1⟩
   · obtain ⟨b,hb⟩:=h.back n z (mQ hz).1 h1 (by omega)
     exact ⟨_,.step hz h1 hb⟩
theorem Lad.path {day:Int}{L:List NC} (h:Lad day L) {c y:NC} (hc:lH day L c=some y):∃ b,BkN day L c b:=by
 by_cases h1:y.kind=1
 · exact ⟨_,.root hc h1⟩
 · obtain ⟨b,hb⟩:=h.back _ y (mQ hc).1 h1 (Nat.lt_succ_self _)
   exact ⟨_,.step hc h1 hb⟩
theorem Lad.none_iff {day:Int}{L:List NC} (h:Lad day L) {c:NC}:iZ day L c=none ↔ lH day L c=none:=by
 refine ⟨fun q=>?_,vH⟩
 cases hc:lH day L c with
 | none=>rfl
 | some y =>
   obtain ⟨b,hb⟩:=h.path hc
   rw [CD hb] at q
   cases q
theorem zL {l t:List NC}{z:NC} (h:z ∈ l):(l++t).idxOf z=l.idxOf z:=MF h
theorem F3 {l:List NC}{z:NC} (h:z ∈ l):l.idxOf z<l.length:=PK h
theorem RN {l t:List NC}{z:NC} (h:z ∉ l):l.length≤(l++t).idxOf z:=PL h
theorem PM {day:Int}{out t:List NC} (h:Lad day out) (ht:∀ c ∈ t,c ∉ out∧(out.any fun a=>eM day a c)=true):Lad day (out++t):=by
 intro y hy hk
 by_cases ho:y ∈ out
 · obtain ⟨z,hz,hlt⟩:=h y ho hk
   refine ⟨z,?_,by rw [zL (mQ hz).1,zL ho];exact hlt⟩
   unfold lH at hz ⊢
   rw [List.find?_append,hz]
   rfl
 · have hyt:y ∈ t:=(List.mem_append.1 hy).resolve_left ho
   obtain ⟨_,ha⟩:=ht y hyt
   obtain ⟨w,hw,hf⟩:=List.any_eq_true.1 ha
   obtain ⟨z,hz⟩:=sH (p:=fun a=>eM day a y) hw hf
   refine ⟨z,?_,?_⟩
   · unfold lH
     rw [List.find?_append,hz]
     rfl
   · have hzm:=List.mem_of_find?_eq_some hz
     rw [zL hzm]
     exact VG (F3 hzm) (RN ho)
theorem JH {day:Int}{pool out:List NC} (h:Lad day out):Lad day (fI pool day out):=by
 obtain ⟨t,e,ht⟩:=iK pool day out
 rw [e]
 exact PM h fun c hc=>⟨(ht c hc).2.2.1,(ht c hc).2.2.2⟩
theorem MG {day:Int}{pool:List NC}:∀ (n:Nat) (out:List NC),Lad day out→Lad day (trT pool day n out)
 | 0,_,h=>h
 | n+1,out,h=>by
   unfold trT
   split
   · exact h
   · exact MG n _ (JH h)
theorem zM {c:NC} (h:rtN c=true):c.kind=1∧vfN c.key c=true:=by
 unfold rtN at h
 split at h
 · rename_i q
   exact ⟨q,h⟩
 · cases h
theorem pX (st:List UInt8) (day:Int):∀ (l acc:List NC),∀ c ∈ l.foldl (cD st day) acc,c ∈ acc ∨ (c ∈ l∧oK st day c)
 | [],acc,c,hc=>.inl hc
 | x::l,acc,c,hc=>by
   rcases pX st day l _ c hc with h | h
   · unfold cD at h
     split at h
     · rename_i q
       rcases List.mem_append.1 h with h | h
       · exact .inl h
       · obtain rfl:=List.mem_singleton.1 h
         exact .inr ⟨VM,q.1⟩
     · exact .inl h
   · exact .inr ⟨VQ _ h.1,h.2⟩
theorem iL {roots:List NC}{st:List UInt8}{day:Int}{c:NC} (h:c ∈ bN roots st day):c ∈ roots∧oK st day c :=
 (pX st day roots [] c h).resolve_left (by simp)
theorem vI {st:List UInt8}{day:Int}{acc:List NC}{x c:NC} (h:c ∈ acc):c ∈ cD st day acc x:=by
 unfold cD
 split
 · exact List.mem_append_left _ h
 · exact h
theorem sI (st:List UInt8) (day:Int):∀ (l acc:List NC) (c:NC),c ∈ acc→c ∈ l.foldl (cD st day) acc
 | [],_,_,h=>h
 | x::l,acc,c,h=>sI st day l _ c (vI h)
theorem vJ (st:List UInt8) (day:Int):∀ (l acc:List NC) (c:NC),c ∈ l→oK st day c→c ∈ l.foldl (cD st day) acc
 | x::l,acc,c,h,hp=>by
   rcases List.mem_cons.1 h with rfl | h
   · refine sI st day l _ c ?_
     unfold cD
     by_cases hm:c ∈ acc
     · rw [if_neg (fun q=>q.2 hm)];exact hm
     · rw [if_pos ⟨hp,hm⟩];exact List.mem_append_right _ VM
   · exact vJ st day l _ c h hp
theorem F4 {roots:List NC}{st:List UInt8}{day:Int}{c:NC}:c ∈ bN roots st day ↔ c ∈ roots∧oK st day c :=
 ⟨iL,fun h=>vJ st day roots [] c h.1 h.2⟩
theorem JI (roots:List NC) (st:List UInt8) (day:Int):Lad day (bN roots st day):=fun y hy hk=>absurd (zM (iL hy).2.2.2).1 hk
theorem rF (roots pool:List NC) (st:List UInt8) (day:Int):Lad day (dB roots pool st day):=MG _ _ (JI _ _ _)
theorem GX (pool:List NC) (day:Int):∀ (n:Nat) (out:List NC),∃ t,trT pool day n out=out++t∧∀ c ∈ t,c ∈ pool∧c.kind=2
 | 0,out=>⟨[],(List.append_nil _).symm,fun c h=>by cases h⟩
 | n+1,out=>by
   unfold trT
   split
   · exact ⟨[],(List.append_nil _).symm,fun c h=>by cases h⟩
   · obtain ⟨t1,e1,h1⟩:=iK pool day out
     obtain ⟨t2,e2,h2⟩:=GX pool day n (fI pool day out)
     refine ⟨t1++t2,by rw [e2,e1,VF],fun c hc=>?_⟩
     rcases List.mem_append.1 hc with hc | hc
     · exact ⟨(h1 c hc).1,(h1 c hc).2.1⟩
     · exact h2 c hc
theorem yA (roots pool:List NC) (st:List UInt8) (day:Int):∃ t,dB roots pool st day=bN roots st day++t∧∀ c ∈ t,c ∈ pool∧c.kind=2:=GX pool day _ _
theorem yB {roots pool:List NC}{st:List UInt8}{day:Int}{c:NC} (h:c ∈ dB roots pool st day):(c ∈ roots∧oK st day c∧c.kind=1) ∨ (c ∈ pool∧c.kind=2):=by
 obtain ⟨t,e,ht⟩:=yA roots pool st day
 rw [e] at h
 rcases List.mem_append.1 h with h | h
 · have:=iL h
   exact .inl ⟨this.1,this.2,(zM this.2.2.2).1⟩
 · exact .inr (ht c h)
def chainB (day:Int):List NC→Bool
 | a::b::l=>eM day a b && chainB day (b::l)
 | _=>true
end Go.Proofs.YtkjplpmogfmhkaaGreatDoor
namespace Go.Proofs.YtkjplpmogfmhkaaGreatDoor
open Go.RowKit
set_option linter.unusedVariables false
theorem JM {P:Program}{o o2:Oper} (h1:o2.op=o.op) (h2:o2.dst=o.dst) (h3:o2.type=o.type) {a:Act}{w:World}{K:Act→World→Prop}{Q:Exit→Act→World→Prop} (h:o2.wp P a w K Q):o.wp P a w K Q:=by
 obtain ⟨d,op,ty,ps,af,gd⟩:=o
 obtain ⟨d2,op2,ty2,ps2,af2,gd2⟩:=o2
 simp only at h1 h2 h3
 subst h1 h2 h3
 exact h
theorem CE {P:Program}{o o2:Oper} (h1:o2.op=o.op) (h2:o2.dst=o.dst) (h3:o2.type=o.type) {a:Act}{w:World} (h:o2.asks P a w):o.asks P a w:=by
 obtain ⟨d,op,ty,ps,af,gd⟩:=o
 obtain ⟨d2,op2,ty2,ps2,af2,gd2⟩:=o2
 simp only at h1 h2 h3
 subst h1 h2 h3
 exact h
def QT (ops ops2:Array Oper) (l1:Array Bool) (s:List Nat):Bool :=
 decide (l1.size=ops.size) && decide (s.length=ops2.size) &&
 (List.range s.length).all (fun k=>(List.range s.length).all fun m=>k == m || s.getD k 0 != s.getD m 0) &&
 (List.range s.length).all (fun k=>decide (s.getD k 0<ops.size) && !l1.getD (s.getD k 0) true) &&
 (List.range ops.size).all (fun i=>l1.getD i true || (List.range s.length).any fun k=>s.getD k 0 == i) &&
 (List.range s.length).all (fun k=>match ops[s.getD k 0]?,ops2[k]? with
   | some o,some o2=>o.guard.isNone && o2.guard.isNone &&
     o.after.all (fun e=>!Region.binds .any e || l1.getD e.on false || o2.after.any fun e2=>Region.binds .any e2 && decide (e2.on<s.length) && s.getD e2.on 0 == e.on) &&
     o2.after.all (fun e2=>!Region.binds .any e2 || (decide (e2.on<s.length) && o.after.any fun e=>Region.binds .any e && s.getD e2.on 0 == e.on))
   | _,_=>false)
structure TM (ops ops2:Array Oper) (l1:Array Bool) (s:List Nat):Prop where
 size1:l1.size=ops.size
 size2:s.length=ops2.size
 inj:∀ k m,k<s.length→m<s.length→s.getD k 0=s.getD m 0→k=m
 lt:∀ k,k<s.length→s.getD k 0<ops.size∧l1.getD (s.getD k 0) true=false
 onto:∀ i,i<ops.size→l1.getD i true=false→∃ k,k<s.length∧s.getD k 0=i
 edge:∀ k,k<s.length→∃ o o2,ops[s.getD k 0]?=some o∧ops2[k]?=some o2∧o.guard=none∧o2.guard=none ∧
  (∀ e ∈ o.after,Region.binds .any e=true→l1.getD e.on false=true ∨ ∃ e2 ∈ o2.after,Region.binds .any e2=true∧e2.on<s.length∧s.getD e2.on 0=e.on) ∧
  (∀ e2 ∈ o2.after,Region.binds .any e2=true→e2.on<s.length∧∃ e ∈ o.after,Region.binds .any e=true∧s.getD e2.on 0=e.on)
theorem PN {ops ops2:Array Oper}{l1:Array Bool}{s:List Nat} (h:QT ops ops2 l1 s=true):TM ops ops2 l1 s:=by
 unfold QT at h
 simp only [Bool.and_eq_true,decide_eq_true_eq] at h
 obtain ⟨⟨⟨⟨⟨h1,h2⟩,h3⟩,h4⟩,h5⟩,h6⟩:=h
 refine ⟨h1,h2,fun k m hk hm e=>?_,fun k hk=>?_,fun i hi hl=>?_,fun k hk=>?_⟩
 · have q:=List.all_eq_true.1 (List.all_eq_true.1 h3 k (List.mem_range.2 hk)) m (List.mem_range.2 hm)
   simp only [Bool.or_eq_true,beq_iff_eq,bne_iff_ne] at q
   exact q.resolve_right (fun q=>q e)
 · have q:=List.all_eq_true.1 h4 k (List.mem_range.2 hk)
   simpa using q
 · have q:=List.all_eq_true.1 h5 i (List.mem_range.2 hi)
   rw [hl,Bool.false_or] at q
   obtain ⟨k,hk,e⟩:=List.any_eq_true.1 q
   exact ⟨k,List.mem_range.1 hk,by simpa using e⟩
 · have q:=List.all_eq_true.1 h6 k (List.mem_range.2 hk)
   split at q
   · rename_i o o2 ho ho2
     simp only [Bool.and_eq_true,Option.isNone_iff_eq_none] at q
     obtain ⟨⟨⟨g1,g2⟩,f⟩,b⟩:=q
     refine ⟨o,o2,ho,ho2,g1,g2,fun e he hb=>?_,fun e2 he hb=>?_⟩
     · have q:=Array.all_eq_true_iff_forall_mem.1 f e he
       simp only [hb,Bool.not_true,Bool.false_or,Bool.or_eq_true] at q
       rcases q with q | q
       · exact .inl q
       · obtain ⟨e2,he2,q⟩:=Array.any_eq_true'.1 q
         simp only [Bool.and_eq_true,decide_eq_true_eq,beq_iff_eq] at q
         exact .inr ⟨e2,he2,q.1.1,q.1.2,q.2⟩
     · have q:=Array.all_eq_true_iff_forall_mem.1 b e2 he
       simp only [hb,Bool.not_true,Bool.false_or,Bool.and_eq_true,decide_eq_true_eq] at q
       obtain ⟨e,he',q2⟩:=Array.any_eq_true'.1 q.2
       simp only [Bool.and_eq_true,beq_iff_eq] at q2
       exact ⟨q.1,e,he',q2.1,q2.2⟩
   · cases q
def RO (o:Oper):Op × Option Nat × TypeId:=(o.op,o.dst,o.type)
theorem TQ {P:Program}{ops ops2:Array Oper}{Q:Exit→Act→World→Prop}{l1:Array Bool}{s:List Nat} (R:TM ops ops2 l1 s) (hsame:∀ k o o2,k<s.length→ops[s.getD k 0]?=some o→ops2[k]?=some o2→o2.op=o.op∧o2.dst=o.dst∧o2.type=o.type) :
 ∀ (fuel:Nat) (listed listed2:Array Bool) (a:Act) (w:World),listed.size=ops.size→listed2.size=ops2.size→(∀ i,i<ops.size→l1.getD i true=true→listed.getD i true=true)→(∀ k,k<s.length→listed.getD (s.getD k 0) true=listed2.getD k true) →
  wpAny P .any ops2 Q fuel listed2 a w→wpAny P .any ops Q fuel listed a w:=by
 have gd:∀ (l:Array Bool) (i:Nat),i<l.size→l.getD i true=l.getD i false:=fun l i h=>by simp [h]
 have rdy:∀ (listed listed2:Array Bool),listed.size=ops.size→listed2.size=ops2.size→(∀ i,i<ops.size→l1.getD i true=true→listed.getD i true=true)→(∀ k,k<s.length→listed.getD (s.getD k 0) true=listed2.getD k true) →
  (∀ i,i ∈ Region.ready .any ops listed→∃ k,k<s.length∧s.getD k 0=i∧k ∈ Region.ready .any ops2 listed2)∧(∀ k,k ∈ Region.ready .any ops2 listed2→s.getD k 0 ∈ Region.ready .any ops listed):=by
  intro listed listed2 z1 z2 hold heq
  refine ⟨fun i hi=>?_,fun k hk=>?_⟩
  · obtain ⟨hl,o,ho,hall⟩:=mem_ready.1 hi
    have hio:=(Array.getElem?_eq_some_iff.1 ho).1
    have hl1:l1.getD i true=false:=by
     cases hc:l1.getD i true with
     | false=>rfl
     | true=>rw [hold i hio hc] at hl;cases hl
    obtain ⟨k,hk,rfl⟩:=R.onto i hio hl1
    obtain ⟨o',o2,ho',ho2,_,_,_,bw⟩:=R.edge k hk
    rw [ho] at ho'
    injection ho' with ho'
    subst ho'
    refine ⟨k,hk,rfl,mem_ready.2 ⟨by rw [← heq k hk];exact hl,o2,ho2,fun e2 he hb=>?_⟩⟩
    obtain ⟨hlt,e,he',hb',hon⟩:=bw e2 he hb
    have:=hall e he' hb'
    rw [← hon] at this
    have h3:=heq e2.on hlt
    rw [gd listed _ (by rw [z1];exact (R.lt _ hlt).1),this] at h3
    rw [← gd listed2 _ (by rw [z2,← R.size2];exact hlt)]
    exact h3.symm
  · obtain ⟨hl,o2,ho2,hall⟩:=mem_ready.1 hk
    have hks:k<s.length:=by rw [R.size2];exact (Array.getElem?_eq_some_iff.1 ho2).1
    obtain ⟨o,o2',ho,ho2',_,_,fw,_⟩:=R.edge k hks
    rw [ho2] at ho2'
    injection ho2' with ho2'
    subst ho2'
    refine mem_ready.2 ⟨by rw [heq k hks];exact hl,o,ho,fun e he hb=>?_⟩
    rcases fw e he hb with q | ⟨e2,he2,hb2,hlt,hon⟩
    · have hlt:e.on<ops.size:=by
       rcases Nat.lt_or_ge e.on l1.size with h | h
       · rw [R.size1] at h;exact h
       · simp [Nat.not_lt.2 h] at q
      rw [← gd listed _ (by rw [z1];exact hlt)]
      exact hold _ hlt (by rw [gd l1 _ (by rw [R.size1];exact hlt)];exact q)
    · have:=hall e2 he2 hb2
      rw [← hon,← gd listed _ (by rw [z1];exact (R.lt _ hlt).1),heq _ hlt,gd listed2 _ (by rw [z2,← R.size2];exact hlt)]
      exact this
 intro fuel
 induction fuel with
 | zero =>
   intro listed listed2 a w z1 z2 hold heq h
   obtain ⟨r1,r2⟩:=rdy listed listed2 z1 z2 hold heq
   refine ⟨List.eq_nil_iff_forall_not_mem.2 fun i hi=>?_,h.2⟩
   obtain ⟨k,_,_,hk⟩:=r1 i hi
   have:=h.1
   rw [this] at hk
   cases hk
 | succ fuel ih =>
   intro listed listed2 a w z1 z2 hold heq h
   obtain ⟨r1,r2⟩:=rdy listed listed2 z1 z2 hold heq
   refine ⟨fun h0=>h.1 (List.eq_nil_iff_forall_not_mem.2 fun k hk=>?_),fun i hi=>?_⟩
   · have:=r2 k hk
     rw [h0] at this
     cases this
   · obtain ⟨k,hk,rfl,hk2⟩:=r1 i hi
     have h2:=h.2 k hk2
     obtain ⟨o,o2,ho,ho2,g1,g2,_,_⟩:=R.edge k hk
     obtain ⟨e1,e2,e3⟩:=hsame k o o2 hk ho ho2
     unfold wpOp at h2 ⊢
     simp only [ho2,ho] at h2 ⊢
     have w1:Region.wanted o (yielded ops a.tmps)=true:=by simp [Region.wanted,g1]
     have w2:Region.wanted o2 (yielded ops2 a.tmps)=true:=by simp [Region.wanted,g2]
     rw [if_pos w2] at h2
     rw [if_pos w1]
     refine h2.imp (fun h2=>JM e1 e2 e3 (Oper.wp_mono (fun a' w' h3=>?_) h2)) (fun h2=>⟨CE e1 e2 e3 h2.1,h2.2⟩)
     refine ih _ _ a' w' (by simpa using z1) (by simpa using z2) (fun i hi hl=>?_) (fun m hm=>?_) h3
     · by_cases q:i=s.getD k 0
       · subst q
         simp [z1]
       · rw [getD_set_ne true (Ne.symm q)]
         exact hold i hi hl
     · by_cases q:m=k
       · subst q
         have b1:=(R.lt m hm).1
         have b2:m<ops2.size:=by rw [← R.size2];exact hm
         simp [z1,z2,b2]
       · have q2:s.getD k 0≠s.getD m 0:=fun e=>q (R.inj k m hk hm e).symm
         rw [getD_set_ne true q2,getD_set_ne true (Ne.symm q)]
         exact heq m hm
theorem CF {P:Program}{ops:Array Oper}{Q:Exit→Act→World→Prop}{i:Nat} (d:Nat) {oi:Oper}{v:Value}{fuel:Nat}{listed:Array Bool}{a:Act}{w:World} (hi:ops[i]?=some oi) (hd:oi.dst=some d)
 (hs:Region.noSelect ops=true) (hf:Region.free .any ops listed i=true) (hr:(Region.ready .any ops listed).contains i=true)
 (hQ:∀ c a w,Q (.panic c) (a.put oi.dst v) w→Q (.panic c) a w) (hy:Yields P ops oi v a)
 (h:wpAny P .any ops Q fuel (listed.setIfInBounds i true) (a.put (some d) v) w):wpAny P .any ops Q (fuel+1) listed a w :=
 wpAny_take hi hs hf hr hQ hy (by rw [hd];exact h)
theorem PO {ops ops2:Array Oper}{s:List Nat} (h:(List.range s.length).map (fun k=>(ops[s.getD k 0]?).map RO)=(List.range s.length).map (fun k=>(ops2[k]?).map RO)) :
 ∀ k o o2,k<s.length→ops[s.getD k 0]?=some o→ops2[k]?=some o2→o2.op=o.op∧o2.dst=o.dst∧o2.type=o.type:=by
 intro k o o2 hk ho ho2
 have h2:=congrArg (fun l=>l[k]?) h
 simp only [List.getElem?_map,List.getElem?_range hk,Option.map_some,ho,ho2,Option.some.injEq] at h2
 unfold RO at h2
 simp only [Prod.mk.injEq] at h2
 exact ⟨h2.1.symm,h2.2.1.symm,h2.2.2.symm⟩
namespace Gr
instance ltNeR (r:Rl) (w:World):Nonempty (r.Lt w):=⟨⟨w,r.refl w⟩⟩
section
variable {r:Rl}{P:Program}{Q:Exit→Act→World→Prop}
theorem PP {a:Act}{w:World}{l:List Oper} (n:Nat) (hB:(fB l.toArray n && gB l.toArray n)=true)
 (h:wpX r P l.toArray Q w (fun a' w'=>wpList P l.toArray Q (l.drop n) a' w') (l.take n) a []):wpAny P .any l.toArray Q l.toArray.size (Array.replicate l.toArray.size false) a w:=by
 simp only [Bool.and_eq_true] at hB
 have hk:=gW hB.1
 have hle:n≤l.length:=by simpa using hk.le
 have htl:(l.take n).length=n:=by simp;omega
 obtain ⟨gs,_,hob,hfin⟩:=gL (a0:=a) hk (l.take n) 0 a [] [] (by rw [htl];omega) (fun j hj=>by
  rw [htl] at hj
  simp [hj]) ⟨rfl,rfl,rfl,fun t g h=>(by cases h),fun t v w' _ h2=>h2 (fun j hj=>by omega)⟩ h
 have:=iT (P:=P) (Q:=Q) (n:=n) (a0:=a) (w0:=w) (good:=fun j=>gs.getD j (fun _ _=>True)) hk hB.2 (fun i o hi ho=>hob i o (V7 _) hi ho) hfin
  (((List.range n).filter fun i=>!(Array.replicate l.toArray.size false).getD i false).length) (Array.replicate l.toArray.size false) a w rfl
  ⟨by simp,fun j oj _ hl=>(by rw [getD_replicate_false] at hl;cases hl),fun t _ ht=>getD_in (by simpa using ht) (getD_replicate_false _ _)⟩
  ⟨r.refl _,rfl,rfl,fun j _ hl=>(by rw [getD_replicate_false] at hl;cases hl),fun t _=>rfl⟩
 have hcnt:((List.range n).filter fun i=>!(Array.replicate l.toArray.size false).getD i false).length=n:=by
  have:((List.range n).filter fun i=>!(Array.replicate l.toArray.size false).getD i false)=List.range n:=List.filter_eq_self.2 fun i _=>by rw [getD_replicate_false];rfl
  rw [this,List.length_range]
 rw [hcnt] at this
 rw [show n+(l.toArray.size - n)=l.toArray.size by simp;omega] at this
 exact this
end
end Gr
end Go.Proofs.YtkjplpmogfmhkaaGreatDoor
namespace Go.Proofs.YtkjplpmogfmhkaaGreatDoor.Gt
open Go Go.RowKit Go.Proofs.YtkjplpmogfmhkaaGreatDoor
open Go.Proofs.YtkjplpmogfmhkaaGreatDoor.Gd (bV gwp iU cN mF fD pF kZ)
open Go.Proofs.YtkjplpmogfmhkaaGreatDoor.Gr (eU eV)
set_option linter.unusedVariables false
structure Rl where
 rel:World→World→Prop
 st:Nat→World→World→Prop
 refl:∀ w,rel w w
 tr:∀ {a b c:World},rel a b→rel b c→rel a c
 ext:∀ {a b:World},Ext a b→rel a b
 sub:∀ {T:Nat}{a b:World},st T a b→rel a b
def Rl.stable (r:Rl) (g:aE):Prop:=∀ v w w',r.rel w w'→g v w→g v w'
theorem Rl.stable_eq (r:Rl) (v:Value):r.stable (fun u _=>u=v):=fun _ _ _ _ h=>h
def Rl.Lt (r:Rl) (w:World):={ w':World // r.rel w w' }
instance ltNe (r:Rl) (w:World):Nonempty (r.Lt w):=⟨⟨w,r.refl w⟩⟩
def opT (o:Oper):Nat:=match o.op with | .store t _ _=>t | _=>0
def opP (o:Oper):Nat:=match o.op with | .store _ (.tmp p) _=>p | _=>0
def stp (r:Rl) (o:Oper) (w w':World):Prop:=match o.dst with | some _=>Ext w w' | none=>r.st (opT o) w w'
def stb (r:Rl) (o:Oper) (g:aE):Prop:=match o.dst with | some _=>r.stable g | none=>(∀ v w w',Ext w w'→g v w→g v w')∧∀ T,T≠opT o→∀ v w w',r.st T w w'→g v w→g v w'
theorem PQ {r:Rl}{o:Oper}{w w':World} (h:stp r o w w'):r.rel w w':=by
 unfold stp at h
 split at h
 · exact r.ext h
 · exact r.sub h
structure RK (r:Rl) (ops:Array Oper) (n:Nat) (a0:Act) (w0:World) (good:Nat→aE) (listed:Array Bool) (a:Act) (w:World):Prop where
 ext:r.rel w0 w
 defers:a.defers=a0.defers
 size:a.tmps.size=a0.tmps.size
 clo:∀ j,j<n→listed.getD j false=true→∀ oj,ops[j]?=some oj→∀ e ∈ oj.after,Region.binds .any e=true→listed.getD e.on false=true
 done:∀ j,j<n→listed.getD j false=true→∀ oj,ops[j]?=some oj→∀ d,oj.dst=some d→good j (a.eval (.tmp d)) w
 kept:∀ j,j<n→listed.getD j false=true→∀ oj,ops[j]?=some oj→oj.dst=none→good j (a.eval (.tmp (opP oj))) w
 old:∀ t,(∀ j,j<n→listed.getD j false=true→∀ oj,ops[j]?=some oj→oj.dst≠some t)→a.eval (.tmp t)=a0.eval (.tmp t)
def wpX (r:Rl) (P:Program) (ops:Array Oper) (Q:Exit→Act→World→Prop) (w0:World) (R:Act→World→Prop):List (Nat × aE)→List Oper→Act→List (Nat × aE)→Prop
 | ss,[],a,hs=>∀ a' w,r.rel w0 w→a'.defers=a.defers→a'.tmps.size=a.tmps.size→(∀ t,bM a hs t (a'.eval (.tmp t)) w)→(∀ q ∈ ss,q.2 (a'.eval (.tmp q.1)) w)→R a' w
 | ss,o::rest,a,hs=>(∃ d g,o.dst=some d∧d<a.tmps.size∧r.stable g ∧
    (∀ a' w,r.rel w0 w→(∀ t ∈ bV ops o,bM a hs t (a'.eval (.tmp t)) w)→gwp P ops o a' w (fun a'' w''=>∃ v,a''=a'.put o.dst v∧Ext w w''∧g v w'') Q) ∧
    ((∃ v,g=(fun u _=>u=v)∧wpX r P ops Q w0 R ss rest (a.put (some d) v) hs) ∨ wpX r P ops Q w0 R ss rest (a.put (some d) undef) ((d,g)::hs))) ∨
   (∃ q:aE,o.dst=none∧(∀ v w w',Ext w w'→q v w→q v w')∧(∀ T,T≠opT o→∀ v w w',r.st T w w'→q v w→q v w') ∧
     (∀ a' w,r.rel w0 w→(∀ t ∈ bV ops o,bM a hs t (a'.eval (.tmp t)) w)→gwp P ops o a' w (fun a'' w''=>∃ v,a''=a'.put o.dst v∧r.st (opT o) w w''∧q (a'.eval (.tmp (opP o))) w'') Q) ∧
     wpX r P ops Q w0 R ((opP o,q)::ss) rest a hs)
section
variable {r:Rl}{P:Program}{ops:Array Oper}{Q:Exit→Act→World→Prop}
def Ob (r:Rl) (P:Program) (ops:Array Oper) (Q:Exit→Act→World→Prop) (n:Nat) (a0:Act) (w0:World) (good:Nat→aE) (i:Nat) (o:Oper):Prop :=
 (∀ d,o.dst=some d→d<a0.tmps.size)∧stb r o (good i)∧∀ a' w,r.rel w0 w→(∀ t ∈ bV ops o,jA ops n a0 good t (a'.eval (.tmp t)) w) →
   gwp P ops o a' w (fun a'' w''=>∃ v,a''=a'.put o.dst v∧stp r o w w''∧(∀ d,o.dst=some d→good i v w'')∧(o.dst=none→good i (a'.eval (.tmp (opP o))) w'')) Q
def fB (ops:Array Oper) (n:Nat):Bool :=
 decide (n≤ops.size) && (List.range n).all fun i=>match ops[i]? with
  | none=>false
  | some o=>(o.dst.isSome || (bV ops o).contains (opP o)) && (o.after.all (fun e=>!Region.binds .any e || decide (e.on<i)) &&
    (List.range n).all (fun j=>match ops[j]? with
      | none=>false
      | some oj=>(j == i || (oj.dst.isNone && o.dst.isNone && opT oj != opT o) || oj.dst != o.dst) && ((bV ops o).all fun t=>oj.dst != some t || o.after.any fun e=>Region.binds .any e && e.on == j)))
structure gQ (ops:Array Oper) (n:Nat):Prop where
 le:n≤ops.size
 ptr:∀ i o,i<n→ops[i]?=some o→o.dst=none→opP o ∈ bV ops o
 back:∀ i o,i<n→ops[i]?=some o→∀ e ∈ o.after,Region.binds .any e=true→e.on<i
 one:∀ i o j oj,i<n→j<n→ops[i]?=some o→ops[j]?=some oj→j≠i→(oj.dst=none∧o.dst=none∧opT oj≠opT o) ∨ oj.dst≠o.dst
 wait:∀ i o j oj,i<n→j<n→ops[i]?=some o→ops[j]?=some oj→∀ t ∈ bV ops o,oj.dst=some t→∃ e ∈ o.after,Region.binds .any e=true∧e.on=j
theorem gW {n:Nat} (h:fB ops n=true):gQ ops n:=by
 unfold fB at h
 simp only [Bool.and_eq_true,decide_eq_true_eq] at h
 obtain ⟨hle,hall⟩:=h
 have key:∀ i o,i<n→ops[i]?=some o→((o.dst.isSome || (bV ops o).contains (opP o)) && (o.after.all (fun e=>!Region.binds .any e || decide (e.on<i)) &&
  (List.range n).all (fun j=>match ops[j]? with
    | none=>false
    | some oj=>(j == i || (oj.dst.isNone && o.dst.isNone && opT oj != opT o) || oj.dst != o.dst) && ((bV ops o).all fun t=>oj.dst != some t || o.after.any fun e=>Region.binds .any e && e.on == j))))=true:=fun i o hi ho=>by
  have:=List.all_eq_true.1 hall i (List.mem_range.2 hi)
  rw [ho] at this
  exact this
 have key2:∀ i o j oj,i<n→j<n→ops[i]?=some o→ops[j]?=some oj→((j == i || (oj.dst.isNone && o.dst.isNone && opT oj != opT o) || oj.dst != o.dst) && ((bV ops o).all fun t=>oj.dst != some t || o.after.any fun e=>Region.binds .any e && e.on == j))=true:=fun i o j oj hi hj ho hoj=>by
  have:=key i o hi ho
  simp only [Bool.and_eq_true] at this
  have:=List.all_eq_true.1 this.2.2 j (List.mem_range.2 hj)
  rw [hoj] at this
  exact this
 refine ⟨hle,fun i o hi ho hd=>?_,fun i o hi ho e he hb=>?_,fun i o j oj hi hj ho hoj hne=>?_,fun i o j oj hi hj ho hoj t ht hd=>?_⟩
 · have:=key i o hi ho
   simp only [Bool.and_eq_true,Bool.or_eq_true] at this
   rcases this.1 with h | h
   · rw [hd] at h;cases h
   · simpa using h
 · have:=key i o hi ho
   simp only [Bool.and_eq_true] at this
   have h2:=Array.all_eq_true_iff_forall_mem.1 this.2.1 e he
   simp only [hb,Bool.not_true,Bool.false_or,decide_eq_true_eq] at h2
   exact h2
 · have:=key2 i o j oj hi hj ho hoj
   simp only [Bool.and_eq_true,Bool.or_eq_true,beq_iff_eq,bne_iff_ne] at this
   rcases this.1 with (h | ⟨⟨h1,h2⟩,h3⟩) | h
   · exact absurd h hne
   · exact .inl ⟨Option.isNone_iff_eq_none.1 h1,Option.isNone_iff_eq_none.1 h2,h3⟩
   · exact .inr h
 · have:=key2 i o j oj hi hj ho hoj
   simp only [Bool.and_eq_true] at this
   have h2:=List.all_eq_true.1 this.2 t ht
   simp only [Bool.or_eq_true,bne_iff_ne,hd,ne_eq,not_true_eq_false,false_or] at h2
   obtain ⟨e,he,hb⟩:=Array.any_eq_true'.1 h2
   simp only [Bool.and_eq_true,beq_iff_eq] at hb
   exact ⟨e,he,hb.1,hb.2⟩
theorem MH (a:Act) (v:Value):a.put none v=a:=rfl
theorem iT {n:Nat}{a0:Act}{w0:World}{good:Nat→aE} (hk:gQ ops n) (ht:gB ops n=true) (hob:∀ i o,i<n→ops[i]?=some o→Ob r P ops Q n a0 w0 good i o)
 (hfin:∀ a w,r.rel w0 w→a.defers=a0.defers→a.tmps.size=a0.tmps.size→(∀ t,jA ops n a0 good t (a.eval (.tmp t)) w)→(∀ j,j<n→∀ oj,ops[j]?=some oj→oj.dst=none→good j (a.eval (.tmp (opP oj))) w)→wpList P ops Q (ops.toList.drop n) a w) :
 ∀ (f:Nat) (listed:Array Bool) (a:Act) (w:World),((List.range n).filter fun i=>!listed.getD i false).length=f→HeadInv .any ops n listed→RK r ops n a0 w0 good listed a w →
  wpAny P .any ops Q (f+(ops.size - n)) listed a w:=by
 unfold gB at ht
 simp only [Bool.and_eq_true,Bool.or_eq_true,beq_iff_eq] at ht
 obtain ⟨htail,hseq⟩:=ht
 intro f
 induction f with
 | zero =>
   intro listed a w hf inv hx
   have hall:∀ i,i<n→listed.getD i false=true:=fun i hi=>by
    have h0:=VO hf
    cases hl:listed.getD i false with
    | true=>rfl
    | false =>
      have:i ∈ (List.range n).filter fun i=>!listed.getD i false:=List.mem_filter.2 ⟨List.mem_range.2 hi,by simp only [hl];rfl⟩
      rw [h0] at this
      cases this
   have hle:=hk.le
   have hls:=inv.size
   have hl:listed=Array.replicate n true++Array.replicate (ops.size - n) false:=by
    apply Array.ext
    · simp;omega
    · intro i h1 h2
      by_cases hin:i<n
      · have:=hall i hin
        rw [Array.getElem_append_left (by simpa using hin)]
        simpa [h1] using this
      · have:=inv.tail i (by omega) (by omega)
        rw [Array.getElem_append_right (by simp;omega)]
        simpa [h1] using this
   rw [VB]
   have hd:=hfin a w hx.ext hx.defers hx.size (fun t=>⟨fun j hj oj hoj hd=>hx.done j hj (hall j hj) oj hoj t hd,fun hno=>hx.old t (fun j hj _ oj hoj=>hno j hj oj hoj)⟩) (fun j hj oj hoj hd=>hx.kept j hj (hall j hj) oj hoj hd)
   have:=wpAny_of_seq (md:=.any) (ops:=ops) (Q':=Q) (ops.toList.drop n) n listed a w (fun j=>by simp [List.getElem?_drop]) (by
    rw [hl,show (ops.toList.drop n).length=ops.size - n by simp]
    exact hseq) hd
   rwa [show (ops.toList.drop n).length=ops.size - n by simp] at this
 | succ f ih =>
   intro listed a w hf inv hx
   have hle:=hk.le
   have hls:=inv.size
   have hex:∃ i,i<n∧listed.getD i false=false:=by
    cases hfl:(List.range n).filter fun i=>!listed.getD i false with
    | nil=>rw [hfl] at hf;simp at hf
    | cons i r =>
      have:i ∈ (List.range n).filter fun i=>!listed.getD i false:=by rw [hfl];exact VM
      obtain ⟨h1,h2⟩:=List.mem_filter.1 this
      exact ⟨i,List.mem_range.1 h1,by simpa using h2⟩
   have hleast:∀ m,(∃ i,i≤m∧i<n∧listed.getD i false=false)→∃ i,i<n∧listed.getD i false=false∧∀ j,j<i→listed.getD j false=true:=by
    intro m
    induction m with
    | zero =>
      rintro ⟨i,h0,hi,hl⟩
      exact ⟨i,hi,hl,fun j hj=>by omega⟩
    | succ m ihm =>
      rintro ⟨i,h0,hi,hl⟩
      by_cases hb:∃ j,j≤m∧j<n∧listed.getD j false=false
      · exact ihm hb
      · refine ⟨i,hi,hl,fun j hj=>?_⟩
        cases hjl:listed.getD j false with
        | true=>rfl
        | false=>exact absurd ⟨j,by omega,by omega,hjl⟩ hb
   obtain ⟨i0,hi0,hl0,hmin⟩:∃ i,i<n∧listed.getD i false=false∧∀ j,j<i→listed.getD j false=true:=by
    obtain ⟨i,hi,hl⟩:=hex
    exact hleast i ⟨i,UX _,hi,hl⟩
   obtain ⟨o0,ho0⟩:∃ o,ops[i0]?=some o:=⟨ops[i0]'(by omega),Array.getElem?_eq_getElem (by omega)⟩
   have hr0:i0 ∈ Region.ready .any ops listed:=mem_ready.2 ⟨getD_in (by omega) hl0,o0,ho0,fun e he hb=>hmin _ (hk.back i0 o0 hi0 ho0 e he hb)⟩
   rw [show f+1+(ops.size - n)=(f+(ops.size - n))+1 by omega]
   refine ⟨fun h=>(by rw [h] at hr0;cases hr0),fun i hi=>?_⟩
   have hir:=mem_ready.1 hi
   have hin:i<n:=by
    rcases Nat.lt_or_ge i n with h | h
    · exact h
    · rcases htail with he | ⟨hs,hc⟩
      · obtain ⟨o,ho,_⟩:=hir.2
        have:=(Array.getElem?_eq_some_iff.1 ho).1
        omega
      · have hn:n<ops.size:=by
         obtain ⟨o,ho,_⟩:=hir.2
         have:=(Array.getElem?_eq_some_iff.1 ho).1
         omega
        exact absurd hi (tail_waits hs hc hn inv _ i0 rfl hi0 (getD_in (by omega) hl0) i h)
   obtain ⟨hun,o,ho,hall⟩:=hir
   have hlf:listed.getD i false=false:=getD_both hun
   obtain ⟨hds,hst,hwp⟩:=hob i o hin ho
   have hslots:∀ t ∈ bV ops o,jA ops n a0 good t (a.eval (.tmp t)) w:=fun t ht=>by
    refine ⟨fun j hj oj hoj hdj=>?_,fun hno=>hx.old t (fun j hj _ oj hoj=>hno j hj oj hoj)⟩
    obtain ⟨e,he,hb,hon⟩:=hk.wait i o j oj hin hj ho hoj t ht hdj
    exact hx.done j hj (by rw [← hon];exact hall e he hb) oj hoj t hdj
   unfold wpOp
   simp only [ho]
   have hgo:∀ K:Act→World→Prop,gwp P ops o a w K Q→(if Region.wanted o (yielded ops a.tmps)=true then o.wp P a w K Q ∨ (o.asks P a w∧LetsOut Q) else K (a.put o.dst undef) w):=fun K h=>by
    unfold gwp at h
    split
    · rename_i c;rw [if_pos c] at h;exact .inl h
    · rename_i c;rw [if_neg c] at h;exact h
   refine hgo _ (iU ?_ (hwp a w hx.ext hslots))
   rintro a'' w'' ⟨v,rfl,hstp,hg1,hg2⟩
   have hext:=PQ hstp
   have hclo:∀ j,j<n→(listed.setIfInBounds i true).getD j false=true→∀ oj,ops[j]?=some oj→∀ e ∈ oj.after,Region.binds .any e=true→(listed.setIfInBounds i true).getD e.on false=true:=fun j hj hjl oj hoj e he hb=>by
    have up:∀ k,listed.getD k false=true→(listed.setIfInBounds i true).getD k false=true:=fun k hk'=>getD_set_true hk'
    by_cases hji:j=i
    · subst hji
      have:oj=o:=Option.some.inj (hoj.symm.trans ho)
      subst this
      exact up _ (hall e he hb)
    · rw [getD_set_ne false (Ne.symm hji)] at hjl
      exact up _ (hx.clo j hj hjl oj hoj e he hb)
   refine ih (listed.setIfInBounds i true) _ w'' ?_ (inv.set hi hin) ?_
   · have:=pE (p:=fun j=>!listed.getD j false) (q:=fun j=>!(listed.setIfInBounds i true).getD j false) hin (by simp only [hlf];rfl) (by
      have:(listed.setIfInBounds i true).getD i false=true:=by simp [show i<listed.size by omega]
      simp only [this];rfl) (fun j hj=>by simp only [getD_set_ne false (Ne.symm hj)])
     omega
   · cases hd:o.dst with
     | none =>
       rw [MH]
       have hS:r.st (opT o) w w'':=by unfold stp at hstp;rw [hd] at hstp;exact hstp
       refine ⟨r.tr hx.ext hext,hx.defers,hx.size,hclo,fun j hj hjl oj hoj e he=>?_,fun j hj hjl oj hoj he=>?_,fun t hno=>?_⟩
       · by_cases hji:j=i
         · subst hji
           have:oj=o:=Option.some.inj (hoj.symm.trans ho)
           subst this
           rw [hd] at he
           cases he
         · rw [getD_set_ne false (Ne.symm hji)] at hjl
           obtain ⟨_,hstj,_⟩:=hob j oj hj hoj
           unfold stb at hstj
           rw [he] at hstj
           exact hstj _ _ _ hext (hx.done j hj hjl oj hoj e he)
       · by_cases hji:j=i
         · subst hji
           have:oj=o:=Option.some.inj (hoj.symm.trans ho)
           subst this
           exact hg2 hd
         · rw [getD_set_ne false (Ne.symm hji)] at hjl
           obtain ⟨_,hstj,_⟩:=hob j oj hj hoj
           unfold stb at hstj
           rw [he] at hstj
           have hT:opT o≠opT oj:=by
            rcases hk.one i o j oj hin hj ho hoj hji with h | h
            · exact Ne.symm h.2.2
            · exact absurd (he.trans hd.symm) h
           exact hstj.2 _ hT _ _ _ hS (hx.kept j hj hjl oj hoj he)
       · exact hx.old t fun j hj hjl oj hoj=>hno j hj (getD_set_true hjl) oj hoj
     | some d =>
       have hdz:=hds d hd
       have hE:Ext w w'':=by unfold stp at hstp;rw [hd] at hstp;exact hstp
       refine ⟨r.tr hx.ext hext,hx.defers,by simp [Act.put,hx.size],hclo,fun j hj hjl oj hoj e he=>?_,fun j hj hjl oj hoj he=>?_,fun t hno=>?_⟩
       · by_cases hji:j=i
         · subst hji
           have:oj=o:=Option.some.inj (hoj.symm.trans ho)
           subst this
           have:e=d:=Option.some.inj (he.symm.trans hd)
           subst this
           rw [aM (by rw [hx.size];exact hdz)]
           exact hg1 _ hd
         · rw [getD_set_ne false (Ne.symm hji)] at hjl
           have hne:d≠e:=fun h=>by
            rcases hk.one i o j oj hin hj ho hoj hji with q | q
            · rw [he] at q;cases q.1
            · exact q (by rw [he,hd,h])
           rw [bX hne]
           obtain ⟨_,hstj,_⟩:=hob j oj hj hoj
           unfold stb at hstj
           rw [he] at hstj
           exact hstj _ _ _ hext (hx.done j hj hjl oj hoj e he)
       · by_cases hji:j=i
         · subst hji
           have:oj=o:=Option.some.inj (hoj.symm.trans ho)
           subst this
           rw [hd] at he
           cases he
         · rw [getD_set_ne false (Ne.symm hji)] at hjl
           have hne:d≠opP oj:=fun h=>by
            obtain ⟨e,he',hb,hon⟩:=hk.wait j oj i o hj hin hoj ho (opP oj) (hk.ptr j oj hj hoj he) (by rw [hd,h])
            have:=hx.clo j hj hjl oj hoj e he' hb
            rw [hon,hlf] at this
            cases this
           rw [bX hne]
           obtain ⟨_,hstj,_⟩:=hob j oj hj hoj
           unfold stb at hstj
           rw [he] at hstj
           exact hstj.1 _ _ _ hE (hx.kept j hj hjl oj hoj he)
       · have hne:d≠t:=fun h=>hno i hin (by simp [show i<listed.size by omega]) o ho (by rw [hd,h])
         rw [bX hne]
         exact hx.old t fun j hj hjl oj hoj=>hno j hj (getD_set_true hjl) oj hoj
theorem gL {n:Nat}{a0:Act}{w0:World}{R:Act→World→Prop} (hk:gQ ops n) :
 ∀ (rest:List Oper) (k:Nat) (a:Act) (hs ss:List (Nat × aE)) (gs:List aE),k+rest.length=n→(∀ j,j<rest.length→rest[j]?=ops[k+j]?)→JX ops n a0 k a hs gs →
  (∀ q ∈ ss,∃ j oj,j<k∧ops[j]?=some oj∧oj.dst=none∧q.1=opP oj∧q.2=gs.getD j (fun _ _=>True))→wpX r P ops Q w0 R ss rest a hs →
  ∃ gs':List aE,(∀ j,j<k→gs'.getD j (fun _ _=>True)=gs.getD j (fun _ _=>True))∧(∀ i o,k≤i→i<n→ops[i]?=some o→Ob r P ops Q n a0 w0 (fun j=>gs'.getD j (fun _ _=>True)) i o) ∧
   (∀ a' w,r.rel w0 w→a'.defers=a0.defers→a'.tmps.size=a0.tmps.size→(∀ t,jA ops n a0 (fun j=>gs'.getD j (fun _ _=>True)) t (a'.eval (.tmp t)) w)→(∀ j,j<n→∀ oj,ops[j]?=some oj→oj.dst=none→gs'.getD j (fun _ _=>True) (a'.eval (.tmp (opP oj))) w)→R a' w)
 | [],k,a,hs,ss,gs,hkn,_,J,hss,h=>by
   have hkn':k=n:=by simpa using hkn
   subst hkn'
   refine ⟨gs,fun _ _=>rfl,fun i o h1 h2 _=>by omega,fun a' w he hd hz hsl hst=>h a' w he (hd.trans J.defers.symm) (hz.trans J.size.symm) (fun t=>J.slot t _ _ (hsl t).1 (hsl t).2) fun q hq=>?_⟩
   obtain ⟨j,oj,hj,hoj,hdj,e1,e2⟩:=hss q hq
   rw [e1,e2]
   exact hst j hj oj hoj hdj
 | o::rest,k,a,hs,ss,gs,hkn,hl,J,hss,h=>by
   simp only [VC] at hkn
   have hkn':k<n:=by omega
   have h0:ops[k]?=some o:=by simpa using (hl 0 (by simp)).symm
   have hl':∀ j,j<rest.length→rest[j]?=ops[k+1+j]?:=fun j hj=>by
    have:=hl (j+1) (by simp;omega)
    simpa [V4,Nat.add_comm 1 j] using this
   have hgk:∀ (g:aE) j,j<k→(gs++[g]).getD j (fun _ _=>True)=gs.getD j (fun _ _=>True):=fun g j hj=>by
    simp [List.getD_eq_getElem?_getD,List.getElem?_append_left (show j<gs.length by rw [J.len];exact hj)]
   have hgk':∀ g:aE,(gs++[g]).getD k (fun _ _=>True)=g:=fun g=>by
    simp [List.getD_eq_getElem?_getD,← J.len]
   have hJ:∃ (g:aE) (a1:Act) (hs1 ss1:List (Nat × aE)),(∀ d,o.dst=some d→d<a0.tmps.size)∧stb r o g ∧
    (∀ a' w,r.rel w0 w→(∀ t ∈ bV ops o,bM a hs t (a'.eval (.tmp t)) w)→gwp P ops o a' w (fun a'' w''=>∃ v,a''=a'.put o.dst v∧stp r o w w''∧(∀ d,o.dst=some d→g v w'')∧(o.dst=none→g (a'.eval (.tmp (opP o))) w'')) Q) ∧
    JX ops n a0 (k+1) a1 hs1 (gs++[g])∧(∀ q ∈ ss1,∃ j oj,j<k+1∧ops[j]?=some oj∧oj.dst=none∧q.1=opP oj∧q.2=(gs++[g]).getD j (fun _ _=>True))∧wpX r P ops Q w0 R ss1 rest a1 hs1:=by
    have hold:∀ (g:aE) (q:Nat × aE),q ∈ ss→∃ j oj,j<k+1∧ops[j]?=some oj∧oj.dst=none∧q.1=opP oj∧q.2=(gs++[g]).getD j (fun _ _=>True):=fun g q hq=>by
     obtain ⟨j,oj,hj,hoj,hdj,e1,e2⟩:=hss q hq
     exact ⟨j,oj,by omega,hoj,hdj,e1,by rw [hgk g j hj];exact e2⟩
    rcases h with ⟨d,g,hd,hds,hst,hwp,hrest⟩ | ⟨q,hd,hst,hst2,hwp,hrest⟩
    · have hstp:∀ w w'',Ext w w''→stp r o w w'':=fun w w'' h=>by unfold stp;rw [hd];exact h
      have hwp':∀ a' w,r.rel w0 w→(∀ t ∈ bV ops o,bM a hs t (a'.eval (.tmp t)) w)→gwp P ops o a' w (fun a'' w''=>∃ v,a''=a'.put o.dst v∧stp r o w w''∧(∀ d,o.dst=some d→g v w'')∧(o.dst=none→g (a'.eval (.tmp (opP o))) w'')) Q:=fun a' w h1 h2 =>
       iU (fun a'' w'' ⟨v,e1,e2,e3⟩=>⟨v,e1,hstp _ _ e2,fun _ _=>e3,fun q=>by rw [hd] at q;cases q⟩) (hwp a' w h1 h2)
      have hstb:stb r o g:=by unfold stb;rw [hd];exact hst
      have hdz:∀ d',o.dst=some d'→d'<a0.tmps.size:=fun d' h=>by
       have:d'=d:=Option.some.inj (h.symm.trans hd)
       rw [this,← J.size];exact hds
      have hno:∀ g',hs.lookup d=some g'→False:=fun g' hg'=>by
       obtain ⟨j,oj,hj,hoj,hdj⟩:=J.keys d g' hg'
       rcases hk.one k o j oj hkn' (by omega) h0 hoj (by omega) with q | q
       · rw [hd] at q;cases q.2.1
       · exact q (by rw [hdj,hd])
      have hnone:hs.lookup d=none:=by
       cases hc:hs.lookup d with
       | none=>rfl
       | some g'=>exact (hno g' hc).elim
      have hself:∀ u w,(∀ j,j<k+1→∀ oj,ops[j]?=some oj→oj.dst=some d→((gs++[g]).getD j (fun _ _=>True)) u w)→g u w:=fun u w h1=>by
       have:=h1 k (by omega) o h0 hd
       rwa [hgk'] at this
      have hother:∀ t u w,d≠t→(∀ j,j<k+1→∀ oj,ops[j]?=some oj→oj.dst=some t→((gs++[g]).getD j (fun _ _=>True)) u w)→((∀ j,j<k+1→∀ oj,ops[j]?=some oj→oj.dst≠some t)→u=a0.eval (.tmp t))→bM a hs t u w:=fun t u w htd h1 h2 =>
       J.slot t u w (fun j hj oj hoj hdj=>by have:=h1 j (by omega) oj hoj hdj;rwa [hgk g j hj] at this) (fun hn=>h2 fun j hj oj hoj=>by
        by_cases hjk:j=k
        · subst hjk
          have:oj=o:=Option.some.inj (hoj.symm.trans h0)
          subst this
          rw [hd];intro he;exact htd (Option.some.inj he)
        · exact hn j (by omega) oj hoj)
      rcases hrest with ⟨v,hg,hx⟩ | hx
      · refine ⟨g,a.put (some d) v,hs,ss,hdz,hstb,hwp',⟨by simp [J.len],J.defers,by simp [Act.put,J.size],fun t g' ht=>?_,fun t u w h1 h2=>?_⟩,hold g,hx⟩
        · obtain ⟨j,oj,hj,r⟩:=J.keys t g' ht
          exact ⟨j,oj,by omega,r⟩
        · by_cases htd:d=t
          · subst htd
            have:=hself u w h1
            rw [hg] at this
            unfold bM
            rw [hnone]
            simp only [aM hds]
            exact this
          · have:=hother t u w htd h1 h2
            unfold bM at *
            cases hc:hs.lookup t with
            | some g'=>simp only [hc] at this ⊢;exact this
            | none=>simp only [hc] at this ⊢;rw [bX htd];exact this
      · refine ⟨g,a.put (some d) undef,(d,g)::hs,ss,hdz,hstb,hwp',⟨by simp [J.len],J.defers,by simp [Act.put,J.size],fun t g' ht=>?_,fun t u w h1 h2=>?_⟩,hold g,hx⟩
        · by_cases htd:t=d
          · subst htd;exact ⟨k,o,by omega,h0,hd⟩
          · have e:(t == d)=false:=by simpa using htd
            simp only [List.lookup_cons,e] at ht
            obtain ⟨j,oj,hj,r⟩:=J.keys t g' ht
            exact ⟨j,oj,by omega,r⟩
        · by_cases htd:d=t
          · subst htd
            unfold bM
            simp only [List.lookup_cons,beq_self_eq_true]
            exact hself u w h1
          · have:=hother t u w htd h1 h2
            have e:(t == d)=false:=by simpa using fun h=>htd h.symm
            unfold bM at *
            simp only [List.lookup_cons,e]
            cases hc:hs.lookup t with
            | some g'=>simp only [hc] at this ⊢;exact this
            | none=>simp only [hc] at this ⊢;rw [bX htd];exact this
    · have hstp:∀ w w'',r.st (opT o) w w''→stp r o w w'':=fun w w'' h=>by unfold stp;rw [hd];exact h
      refine ⟨q,a,hs,(opP o,q)::ss,fun d' h=>(by rw [hd] at h;cases h),(by unfold stb;rw [hd];exact ⟨hst,hst2⟩),fun a' w h1 h2=>iU (fun a'' w'' ⟨v,e1,e2,e3⟩=>⟨v,e1,hstp _ _ e2,fun d' h=>(by rw [hd] at h;cases h),fun _=>e3⟩) (hwp a' w h1 h2),
       ⟨by simp [J.len],J.defers,J.size,fun t g' ht=>?_,fun t u w h1 h2=>?_⟩,fun p hp=>?_,hrest⟩
      · obtain ⟨j,oj,hj,r⟩:=J.keys t g' ht
        exact ⟨j,oj,by omega,r⟩
      · exact J.slot t u w (fun j hj oj hoj hdj=>by have:=h1 j (by omega) oj hoj hdj;rwa [hgk q j hj] at this) (fun hn=>h2 fun j hj oj hoj=>by
         by_cases hjk:j=k
         · subst hjk
           have:oj=o:=Option.some.inj (hoj.symm.trans h0)
           subst this
           rw [hd];intro he;cases he
         · exact hn j (by omega) oj hoj)
      · rcases List.mem_cons.1 hp with rfl | hp
        · exact ⟨k,o,by omega,h0,hd,rfl,(hgk' q).symm⟩
        · exact hold q p hp
   obtain ⟨g,a1,hs1,ss1,hdz,hstb,hwp,J1,hss1,hx1⟩:=hJ
   obtain ⟨gs',e1,e2,e3⟩:=gL hk rest (k+1) a1 hs1 ss1 (gs++[g]) (by omega) hl' J1 hss1 hx1
   refine ⟨gs',fun j hj=>by rw [e1 j (by omega),hgk g j hj],fun i oi h1 h2 hoi=>?_,e3⟩
   by_cases hik:i=k
   · subst hik
     have:oi=o:=Option.some.inj (hoi.symm.trans h0)
     subst this
     have hgi:gs'.getD i (fun _ _=>True)=g:=by rw [e1 i (by omega),hgk']
     refine ⟨hdz,by show stb r oi (gs'.getD i (fun _ _=>True));rw [hgi];exact hstb,fun a' w he hsl=>?_⟩
     show gwp P ops oi a' w (fun a'' w''=>∃ v,a''=a'.put oi.dst v∧stp r oi w w''∧(∀ d,oi.dst=some d→gs'.getD i (fun _ _=>True) v w'')∧(oi.dst=none→gs'.getD i (fun _ _=>True) (a'.eval (.tmp (opP oi))) w'')) Q
     rw [hgi]
     refine hwp a' w he fun t ht=>?_
     have hs1:=hsl t ht
     refine J.slot t _ _ (fun j hj oj hoj hdj=>?_) (fun hn=>hs1.2 fun j hj oj hoj hdj=>?_)
     · have:=hs1.1 j (by omega) oj hoj hdj
       simp only [e1 j (by omega),hgk g j hj] at this
       exact this
     · obtain ⟨e,he,hb,hon⟩:=hk.wait i oi j oj hkn' hj h0 hoj t ht hdj
       have:=hk.back i oi hkn' h0 e he hb
       exact hn j (by omega) oj hoj hdj
   · exact e2 i oi (by omega) h2 hoi
theorem aO {id:Nat}{a:Act}{w:World}{l:List Oper} (n:Nat) (hm:P.follows .mixedOrders=true) (hB:(fB l.toArray n && gB l.toArray n)=true)
 (h:∀ w1,r.rel w w1→wpX r P l.toArray Q w1 (fun a' w'=>wpList P l.toArray Q (l.drop n) a' w') [] (l.take n) a []):(Code.region id l.toArray true).wp P Q a w:=by
 simp only [Bool.and_eq_true] at hB
 have hk:=gW hB.1
 have hle:n≤l.length:=by simpa using hk.le
 have htl:(l.take n).length=n:=by simp;omega
 obtain ⟨gs,_,hob,hfin⟩:=gL (a0:=a) hk (l.take n) 0 a [] [] [] (by rw [htl];omega) (fun j hj=>by
  rw [htl] at hj
  simp [hj]) ⟨rfl,rfl,rfl,fun t g h=>(by cases h),fun t v w' _ h2=>h2 (fun j hj=>by omega)⟩ (fun q hq=>by cases hq) (h w.drew (r.ext (Below.refl _ _).drew))
 refine wp_region_any hm ?_
 have:=iT (P:=P) (Q:=Q) (n:=n) (a0:=a) (w0:=w.drew) (good:=fun j=>gs.getD j (fun _ _=>True)) hk hB.2 (fun i o hi ho=>hob i o (V7 _) hi ho) hfin
  (((List.range n).filter fun i=>!(Array.replicate l.toArray.size false).getD i false).length) (Array.replicate l.toArray.size false) a w.drew rfl
  ⟨by simp,fun j oj _ hl=>(by rw [getD_replicate_false] at hl;cases hl),fun t _ ht=>getD_in (by simpa using ht) (getD_replicate_false _ _)⟩
  ⟨r.refl _,rfl,rfl,fun j _ hl=>(by rw [getD_replicate_false] at hl;cases hl),fun j _ hl=>(by rw [getD_replicate_false] at hl;cases hl),fun j _ hl=>(by rw [getD_replicate_false] at hl;cases hl),fun t _=>rfl⟩
 have hcnt:((List.range n).filter fun i=>!(Array.replicate l.toArray.size false).getD i false).length=n:=by
  have:((List.range n).filter fun i=>!(Array.replicate l.toArray.size false).getD i false)=List.range n:=List.filter_eq_self.2 fun i _=>by rw [getD_replicate_false];rfl
  rw [this,List.length_range]
 rw [hcnt] at this
 rw [show n+(l.toArray.size - n)=l.toArray.size by simp;omega] at this
 exact this
end
section
variable {r:Rl}{P:Program}{ops:Array Oper}{Q:Exit→Act→World→Prop}{w0:World}{R:Act→World→Prop}{ss:List (Nat × aE)}
theorem aD {o:Oper}{rest:List Oper}{a:Act}{hs:List (Nat × aE)}{d:Nat} (hg:cN ops o a hs) (hd:o.dst=some d) (hz:Nat.blt d a.tmps.size=true) (hp:eU o=true) (hsel:aP o=true) (hn:dQ o hs=true)
 (h:∀ K:Act→Prop,(∀ a,wpX r P ops Q w0 R ss rest a hs→K a)→o.quiet P a (fun w'=>∃ m:r.Lt w0,w'=m.1) K):wpX r P ops Q w0 R ss (o::rest) a hs:=by
 obtain ⟨v,h1,h2⟩:=h _ (fun _ h=>h)
 rw [hd] at h2
 refine .inl ⟨d,fun u _=>u=v,hd,bH hz,r.stable_eq v,fun a' w he hsl=>?_,.inl ⟨v,rfl,h2⟩⟩
 refine fD hg hsl fun hsl=>?_
 have h3:=h1 w ⟨⟨w,he⟩,rfl⟩
 have h4:execOp a'.eval o=execOp a.eval o:=cS (bL hsel) (eH hn hsl)
 unfold Oper.quietAt at h3
 unfold Oper.wp
 rw [h4]
 have hne:=fun w' f args=>eV (P:=P) (ρ:=a.eval) (o:=o) hp (w:=w) (w':=w') (f:=f) (args:=args)
 generalize (execOp a.eval o).run P w=r at *
 cases r with
 | ok n w' =>
   cases n <;> simp only [Oper.quietUpon] at h3 <;> simp only [Oper.upon]
   case value u=>obtain ⟨e1,e2⟩:=h3;exact ⟨u,rfl,by rw [e1];exact Below.refl _ _,e2⟩
   case skip=>obtain ⟨e1,e2⟩:=h3;exact ⟨undef,rfl,by rw [e1];exact Below.refl _ _,e2.symm⟩
   case enter f args=>exact absurd rfl (hne w' f args)
 | halt x w'=>simp only [Oper.quietUpon] at h3
theorem fO {o:Oper}{rest:List Oper}{a:Act}{hs:List (Nat × aE)}{d:Nat} (hg:cN ops o a hs) (v:Value) (hd:o.dst=some d) (hz:Nat.blt d a.tmps.size=true) (hsel:aP o=true) (hn:dQ o hs=true)
 (h:∀ (m:r.Lt w0) (K:Act→World→Prop),(∀ a'' w'',a''.defers=a.defers→(Ext m.1 w''∧a''.eval (.tmp d)=v)→K a'' w'')→o.wp P a m.1 K (fun _ _ _=>False))
 (hr:wpX r P ops Q w0 R ss rest (a.put (some d) v) hs):wpX r P ops Q w0 R ss (o::rest) a hs :=
 .inl ⟨d,fun u _=>u=v,hd,bH hz,r.stable_eq v,fun a' w he hsl=>fD hg hsl fun hsl=>Oper.wp_mono (fun a'' w'' ⟨v,h1,h2⟩=>⟨v,h1,h2⟩) (dC (G:=fun u w''=>Ext w w''∧u=v) (cS (bL hsel) (eH hn hsl)) hd (bH hz) (h ⟨w,he⟩)),.inl ⟨v,rfl,hr⟩⟩
theorem bZ {o:Oper}{rest:List Oper}{a:Act}{hs:List (Nat × aE)}{d:Nat} (hg:cN ops o a hs) (v:Value) {f:FuncId}{x:Operand}{xs:Array Operand}{ats:Array TypeId}{args:List Value}
 (hd:o.dst=some d) (hz:Nat.blt d a.tmps.size=true) (ho:o.op=.call { callee:=.value x,args:=xs,argTypes:=ats }) (hx:a.eval x=.func (.func f) #[] #[]) (hf:fC P f=true) (ha:xs.toList.map a.eval=args) (hn:dQ o hs=true)
 (h:∀ m:r.Lt w0,Calls P f args.toArray m.1 fun e w''=>e=.returned v∧Ext m.1 w'') (hr:wpX r P ops Q w0 R ss rest (a.put (some d) v) hs):wpX r P ops Q w0 R ss (o::rest) a hs :=
 fO hg v hd hz (by unfold aP;rw [ho]) hn (fun m K hK=>fQ (G:=fun u w''=>u=v∧Ext m.1 w'') ho hx hf ha ((h m).mono fun e w'' ⟨h1,h2⟩=>⟨v,h1,rfl,h2⟩) (fun u w'' ⟨h1,h2⟩=>hK _ _ (by rw [hd];rfl) ⟨h2,by rw [hd,aM (bH hz)];exact h1⟩)) hr
theorem cO {a:Act}{hs:List (Nat × aE)} (h:∀ (m:r.Lt w0) (f:Nat→Value),(∀ t p,hs.lookup t=some p→p (f t) m.1)→(∀ q ∈ ss,q.2 ((aV a hs f).eval (.tmp q.1)) m.1)→R (aV a hs f) m.1):wpX r P ops Q w0 R ss [] a hs:=fun a' w he hd hz hsl hss=>by
 have:a'=aV a hs (fun t=>a'.eval (.tmp t)):=by
  have k1:=bS a (fun t=>a'.eval (.tmp t)) hs
  have k2:=bO a (fun t=>a'.eval (.tmp t)) hs
  have k3:=fU a (fun t=>a'.eval (.tmp t)) hs
  generalize aV a hs (fun t=>a'.eval (.tmp t))=b at *
  obtain ⟨t,d⟩:=a
  obtain ⟨t',d'⟩:=a'
  obtain ⟨tb,db⟩:=b
  simp only at hd hz k1 k2 k3
  subst hd k2
  congr 1
  apply Array.ext (by omega)
  intro i g1 g2
  have q:=hsl i
  rw [k3 i g2 (by omega)]
  cases hl:hs.lookup i with
  | some p=>simp [Act.eval,g1]
  | none =>
    have g3:i<t.size:=by omega
    simp only [bM,hl] at q
    simpa [Act.eval,g1,g3] using q
 rw [this] at hss
 rw [this]
 refine h ⟨w,he⟩ _ (fun t p hl=>?_) hss
 have:=hsl t
 simpa only [bM,hl] using this
theorem kH (b:Act) (t:Nat) (h:t<b.tmps.size):b.eval (.tmp t)=b.tmps[t]:=by simp [Act.eval,h]
theorem gT {o:Oper}{a a':Act}{hs:List (Nat × aE)}{w:World} (hz:a'.tmps.size=a.tmps.size ∨ True) (hin:(aR o).all (fun t=>Nat.blt t a.tmps.size)=true) (h:∀ t ∈ aR o,bM a hs t (a'.eval (.tmp t)) w) :
 ∀ t ∈ aR o,a'.eval (.tmp t)=(aV a hs (fun t=>a'.eval (.tmp t))).eval (.tmp t):=fun t ht=>by
 have h1:=h t ht
 have h2:t<a.tmps.size:=bH (List.all_eq_true.1 hin t ht)
 have h3:t<(aV a hs (fun t=>a'.eval (.tmp t))).tmps.size:=by rw [bS];exact h2
 have h4:=fU a (fun t=>a'.eval (.tmp t)) hs t h3 h2
 rw [kH _ t h3,h4]
 unfold bM at h1
 cases hl:hs.lookup t with
 | some p=>rfl
 | none =>
   rw [hl] at h1
   simp only [Option.isSome_none,Bool.false_eq_true,if_false]
   rw [h1,kH _ t h2]
theorem gG {o:Oper}{rest:List Oper}{a:Act}{hs:List (Nat × aE)}{d:Nat} (hg:cN ops o a hs) (g:aE) (hst:r.stable g) (hd:o.dst=some d) (hz:Nat.blt d a.tmps.size=true) (hsel:aP o=true) (hin:(aR o).all (fun t=>Nat.blt t a.tmps.size)=true)
 (h:∀ (m:r.Lt w0) (f:Nat→Value),(∀ t p,hs.lookup t=some p→(aR o).contains t=true→p (f t) m.1)→∀ (K:Act→World→Prop),(∀ a'' w'',a''.defers=a.defers→(Ext m.1 w''∧g (a''.eval (.tmp d)) w'')→K a'' w'')→o.wp P (aV a hs f) m.1 K (fun _ _ _=>False))
 (hr:wpX r P ops Q w0 R ss rest (a.put (some d) undef) ((d,g)::hs)):wpX r P ops Q w0 R ss (o::rest) a hs :=
 .inl ⟨d,g,hd,bH hz,hst,fun a' w he hsl=>fD hg hsl fun hsl=>by
  refine Oper.wp_mono (fun a'' w'' ⟨v,h1,h2⟩=>⟨v,h1,h2⟩) (dC (G:=fun v w''=>Ext w w''∧g v w'') (cS (bL hsel) (gT (.inr trivial) hin hsl)) hd (by rw [bS];exact bH hz) (fun K hK=>h ⟨w,he⟩ (fun t=>a'.eval (.tmp t)) (fun t p hl hc=>?_) K (fun a'' w'' hd'=>hK a'' w'' (by rw [bO];exact hd'))))
  have:=hsl t (by simpa using hc)
  unfold bM at this
  rw [hl] at this
  exact this,.inr hr⟩
theorem jL {o:Oper}{rest:List Oper}{a:Act}{hs:List (Nat × aE)}{d:Nat} (hg:cN ops o a hs) (g:aE) (hst:r.stable g) {fn:FuncId}{x:Operand}{xs:Array Operand}{ats:Array TypeId} (args:(Nat→Value)→List Value)
 (hd:o.dst=some d) (hz:Nat.blt d a.tmps.size=true) (ho:o.op=.call { callee:=.value x,args:=xs,argTypes:=ats }) (hin:(aR o).all (fun t=>Nat.blt t a.tmps.size)=true)
 (hx:∀ f,(aV a hs f).eval x=.func (.func fn) #[] #[]) (hf:fC P fn=true) (ha:∀ f,xs.toList.map (aV a hs f).eval=args f)
 (h:∀ (m:r.Lt w0) (f:Nat→Value),(∀ t p,hs.lookup t=some p→(aR o).contains t=true→p (f t) m.1)→Calls P fn (args f).toArray m.1 fun e w''=>∃ v,e=.returned v∧Ext m.1 w''∧g v w'')
 (hr:wpX r P ops Q w0 R ss rest (a.put (some d) undef) ((d,g)::hs)):wpX r P ops Q w0 R ss (o::rest) a hs :=
 gG hg g hst hd hz (by unfold aP;rw [ho]) hin (fun m f hu K hK=>fQ (G:=fun u w''=>Ext m.1 w''∧g u w'') ho (hx f) hf (ha f) (h m f hu)
  (fun u' w'' h2=>hK _ _ (by rw [hd];show ((aV a hs f).put (some d) u').defers=_;simp [Act.put,bO]) ⟨h2.1,by rw [hd,aM (by rw [bS];exact bH hz)];exact h2.2⟩)) hr
end
section
variable {r:Rl}{P:Program}{ops:Array Oper}{Q:Exit→Act→World→Prop}{w0:World}{R:Act→World→Prop}{ss:List (Nat × aE)}
theorem dE {a:Act}{hs:List (Nat × aE)}{f:Nat→Value}{x:Operand} (h:jY a x=true):(aV a hs f).eval x=evF a hs f x:=uW (bS a f hs) (fU a f hs) h
theorem eD {a:Act}{hs:List (Nat × aE)} (f:Nat→Value) (n:Nat) (h:Nat.blt n a.tmps.size=true):n<(aV a hs f).tmps.size:=by rw [bS];exact bH h
theorem dV {o:Oper}{rest:List Oper}{a:Act}{hs:List (Nat × aE)}{d:Nat} (hg:cN ops o a hs) (g:aE) (hst:r.stable g) (s:(Nat→Value)→Sem Value)
 (hd:o.dst=some d) (hz:Nat.blt d a.tmps.size=true) (hsel:aP o=true) (hin:(aR o).all (fun t=>Nat.blt t a.tmps.size)=true) (he:∀ f,execOp (aV a hs f).eval o=(do pure (Next.value (← s f))))
 (h:∀ (m:r.Lt w0) (f:Nat→Value),(∀ t p,hs.lookup t=some p→(aR o).contains t=true→p (f t) m.1)→∃ v w'',(s f).run P m.1=.ok v w''∧Ext m.1 w''∧g v w'')
 (hr:wpX r P ops Q w0 R ss rest (a.put (some d) undef) ((d,g)::hs)):wpX r P ops Q w0 R ss (o::rest) a hs :=
 gG hg g hst hd hz hsel hin (fun m f hf K hK=>by
  obtain ⟨v,w'',h1,h2,h3⟩:=h m f hf
  exact nG (he f) h1 (hK _ _ (by rw [hd];show ((aV a hs f).put (some d) v).defers=_;simp [Act.put,bO]) ⟨h2,by rw [hd,aM (eD f d hz)];exact h3⟩)) hr
theorem bJ {o:Oper}{rest:List Oper}{a:Act}{hs:List (Nat × aE)}{d:Nat} (hg:cN ops o a hs) (g:aE) (hst:r.stable g) {t:TypeId}{n:Nat}{ps:Array (Nat × Operand)} (vs:(Nat→Value)→List (Nat × Value))
 (hd:o.dst=some d) (hz:Nat.blt d a.tmps.size=true) (ho:o.op=.buildSlice t n ps) (hin:(aR o).all (fun t=>Nat.blt t a.tmps.size)=true) (hq:(ps.toList.all fun q=>jY a q.2)=true) (ha:∀ f,(ps.toList.map fun q=>(q.1,evF a hs f q.2))=vs f)
 (h:∀ (m:r.Lt w0) (f:Nat→Value),(∀ t p,hs.lookup t=some p→(aR o).contains t=true→p (f t) m.1)→∃ v w'',(Instr.buildSlice t n (vs f).toArray).run P m.1=.ok v w''∧Ext m.1 w''∧g v w'')
 (hr:wpX r P ops Q w0 R ss rest (a.put (some d) undef) ((d,g)::hs)):wpX r P ops Q w0 R ss (o::rest) a hs :=
 dV hg g hst (fun f=>Instr.buildSlice t n (vs f).toArray) hd hz (by unfold aP;rw [ho]) hin (fun f=>by unfold execOp;simp only [ho];rw [← ha f,List.map_congr_left (fun q hm=>by rw [← dE (List.all_eq_true.1 hq q hm)]),← List.map_toArray,Array.toArray_toList]) h hr
theorem aU {o:Oper}{rest:List Oper}{a:Act}{hs:List (Nat × aE)}{d:Nat} (hg:cN ops o a hs) (g:aE) (hst:r.stable g) {fn:FuncId}{x:Operand}{xs:Array Operand}{ats:Array TypeId} (args:(Nat→Value)→List Value)
 (hd:o.dst=some d) (hz:Nat.blt d a.tmps.size=true) (ho:o.op=.call { callee:=.value x,args:=xs,argTypes:=ats }) (hin:(aR o).all (fun t=>Nat.blt t a.tmps.size)=true)
 (hqx:x=.func fn) (hf:fC P fn=true) (hq:(xs.toList.all fun q=>jY a q)=true) (ha:∀ f,xs.toList.map (evF a hs f)=args f)
 (h:∀ (m:r.Lt w0) (f:Nat→Value),(∀ t p,hs.lookup t=some p→(aR o).contains t=true→p (f t) m.1)→Calls P fn (args f).toArray m.1 fun e w''=>∃ v,e=.returned v∧Ext m.1 w''∧g v w'')
 (hr:wpX r P ops Q w0 R ss rest (a.put (some d) undef) ((d,g)::hs)):wpX r P ops Q w0 R ss (o::rest) a hs :=
 jL hg g hst args hd hz ho hin (fun f=>by rw [hqx];rfl) hf (fun f=>by rw [← ha f];exact List.map_congr_left (fun q hm=>dE (List.all_eq_true.1 hq q hm))) h hr
theorem j0 {o:Oper}{rest:List Oper}{a:Act}{hs:List (Nat × aE)}{d:Nat} (hg:cN ops o a hs) (g:aE) (hst:r.stable g) {x:Operand}{ix:Nat} (xv:(Nat→Value)→Value)
 (hd:o.dst=some d) (hz:Nat.blt d a.tmps.size=true) (ho:o.op=.extract x ix) (hin:(aR o).all (fun t=>Nat.blt t a.tmps.size)=true) (hq:jY a x=true) (ha:∀ f,evF a hs f x=xv f)
 (h:∀ (m:r.Lt w0) (f:Nat→Value),(∀ t p,hs.lookup t=some p→(aR o).contains t=true→p (f t) m.1)→∃ v w'',(Instr.extract (xv f) ix).run P m.1=.ok v w''∧Ext m.1 w''∧g v w'')
 (hr:wpX r P ops Q w0 R ss rest (a.put (some d) undef) ((d,g)::hs)):wpX r P ops Q w0 R ss (o::rest) a hs :=
 dV hg g hst (fun f=>Instr.extract (xv f) ix) hd hz (by unfold aP;rw [ho]) hin (fun f=>by unfold execOp;simp only [ho];rw [dE hq,ha f]) h hr
end
section
variable {r:Rl}{P:Program}{ops:Array Oper}{Q:Exit→Act→World→Prop}{w0:World}{R:Act→World→Prop}{ss:List (Nat × aE)}
theorem fS {o:Oper}{rest:List Oper}{a:Act}{hs:List (Nat × aE)} (hg:cN ops o a hs) (q:aE) {t:TypeId}{p:Nat}{x:Operand} (pv:(Nat→Value)→Value) (xv:(Nat→Value)→Value)
 (hd:o.dst=none) (ho:o.op=.store t (.tmp p) x) (hin:(aR o).all (fun t=>Nat.blt t a.tmps.size)=true) (hp:jY a (.tmp p)=true) (hx:jY a x=true) (hpv:∀ f,evF a hs f (.tmp p)=pv f) (hxv:∀ f,evF a hs f x=xv f)
 (hq:∀ v w w',Ext w w'→q v w→q v w') (hq2:∀ T,T≠t→∀ v w w',r.st T w w'→q v w→q v w')
 (h:∀ (m:r.Lt w0) (f:Nat→Value),(∀ t p,hs.lookup t=some p→(aR o).contains t=true→p (f t) m.1)→∃ w'',(Instr.storeAt t (pv f) (xv f)).run P m.1=.ok () w''∧r.st t m.1 w''∧q (pv f) w'')
 (hr:wpX r P ops Q w0 R ((p,q)::ss) rest a hs):wpX r P ops Q w0 R ss (o::rest) a hs:=by
 have hT:opT o=t:=by unfold opT;rw [ho]
 have hP:opP o=p:=by unfold opP;rw [ho]
 refine .inr ⟨q,hd,hq,by rw [hT];exact hq2,fun a' w he hsl=>fD hg hsl fun hsl=>?_,by rw [hP];exact hr⟩
 have hsf:=gT (.inr trivial) hin hsl
 have hex:execOp a'.eval o=execOp (aV a hs (fun t=>a'.eval (.tmp t))).eval o:=cS (by rw [ho];exact fun cs b=>by intro q;cases q) hsf
 have hptr:a'.eval (.tmp p)=pv (fun t=>a'.eval (.tmp t)):=by
  rw [← hpv,← dE hp]
  exact hsf p (by unfold aR;rw [ho];simp [Op.operands])
 obtain ⟨w'',h1,h2,h3⟩:=h ⟨w,he⟩ (fun t=>a'.eval (.tmp t)) (fun t p hl hc=>by
  have:=hsl t (by simpa using hc)
  unfold bM at this
  rw [hl] at this
  exact this)
 unfold Oper.wp
 rw [hex]
 unfold execOp
 simp only [ho]
 rw [dE hp,dE hx,hpv,hxv]
 simp only [Sem.run_bind,h1]
 exact ⟨undef,rfl,by rw [hT];exact h2,by rw [hP,hptr];exact h3⟩
end
end Go.Proofs.YtkjplpmogfmhkaaGreatDoor.Gt
namespace Go.Proofs.YtkjplpmogfmhkaaGreatDoor
open Go.RowKit
set_option linter.unusedVariables false
def cE (w:World) (B:Nat) (e:TypeId) (k:Nat) (v:Value) (xs:List Value):Prop :=
 RdK w k v xs∧∀ A n c,v=.slice A n c→0<n→∃ b o,A=some ⟨b,o,none⟩∧(b<B ∨ ∃ cs fr,w.heap[b]?=some (.cells cs e fr))
theorem aJ.safe {w:World}{B0:Nat}{e:TypeId}{k:Nat}{v:Value}{xs:List Value} (h:aJ w B0 e k v xs) (B:Nat):cE w B e k v xs:=by
 refine ⟨h.rd,fun A n c hv hn=>?_⟩
 obtain ⟨A',n',c',rfl,_,⟨h1,h2⟩ | ⟨g,cur,rfl,_,hg,_⟩⟩:=h
 · injection hv with e1 e2 e3
   omega
 · injection hv with e1 e2 e3
   exact ⟨g,0,e1.symm,.inr ⟨cur,_,hg⟩⟩
theorem RdK.safe {w:World}{B:Nat}{e:TypeId}{k:Nat}{v:Value}{xs:List Value} (h:RdK w k v xs) (hk:0<k) (hB:w.heap.size≤B):cE w B e k v xs:=by
 refine ⟨h,fun A n c hv hn=>?_⟩
 obtain ⟨A',n',c',rfl,hl,_,_,hc⟩:=h
 injection hv with e1 e2 e3
 subst e1 e2 e3
 obtain ⟨b,o,rfl,hcell⟩:=hc hn
 have h0:0<xs.length:=by rw [← hl];exact Nat.mul_pos hn hk
 have:=World.block_lt_of_cell? w _ (hcell 0 _ (V8 h0))
 exact ⟨b,o,rfl,.inl (VG this hB)⟩
theorem cE.rd {w:World}{B:Nat}{e:TypeId}{k:Nat}{v:Value}{xs:List Value} (h:cE w B e k v xs):RdK w k v xs:=h.1
theorem cE.mono {w:World}{B B':Nat}{e:TypeId}{k:Nat}{v:Value}{xs:List Value} (h:cE w B e k v xs) (hB:B≤B'):cE w B' e k v xs :=
 ⟨h.1,fun A n c hv hn=>by
   obtain ⟨b,o,h1,h2⟩:=h.2 A n c hv hn
   exact ⟨b,o,h1,h2.imp (fun q=>VG q hB) id⟩⟩
theorem cE.ext {w w':World}{B:Nat}{e:TypeId}{k:Nat}{v:Value}{xs:List Value} (h:cE w B e k v xs) (x:Ext w w'):cE w' B e k v xs :=
 ⟨h.1.ext x,fun A n c hv hn=>by
   obtain ⟨b,o,h1,h2⟩:=h.2 A n c hv hn
   refine ⟨b,o,h1,h2.imp id fun ⟨cs,fr,q⟩=>⟨cs,fr,(x.block b (a9 q)).trans q⟩⟩⟩
structure RtS (T:TypeId) (B:Nat) (w w':World):Prop where
 os:w'.os=w.os
 tape:w'.tape=w.tape
 output:w'.output=w.output
 size:w.heap.size≤w'.heap.size
 block:∀ k,k<w.heap.size→w'.heap[k]?=w.heap[k]? ∨ (B≤k∧∃ cs cs' fr,w.heap[k]?=some (.cells cs T fr)∧w'.heap[k]?=some (.cells cs' T fr)∧cs'.size=cs.size)
theorem RtS.refl (T:TypeId) (B:Nat) (w:World):RtS T B w w:=⟨rfl,rfl,rfl,UX _,fun _ _=>.inl rfl⟩
theorem RtS.tr {T:TypeId}{B:Nat}{a b c:World} (h:RtS T B a b) (h2:RtS T B b c):RtS T B a c :=
 ⟨h2.os.trans h.os,h2.tape.trans h.tape,h2.output.trans h.output,V9 h.size h2.size,fun k hk=>by
   rcases h.block k hk with e1 | ⟨hB,cs,cs',fr,e1,e2,e3⟩
   · rcases h2.block k (VG hk h.size) with f1 | ⟨hB,cs,cs',fr,f1,f2,f3⟩
     · exact .inl (f1.trans e1)
     · exact .inr ⟨hB,cs,cs',fr,e1 ▸ f1,f2,f3⟩
   · rcases h2.block k (VG hk h.size) with f1 | ⟨_,ds,ds',gr,f1,f2,f3⟩
     · exact .inr ⟨hB,cs,cs',fr,e1,f1.trans e2,e3⟩
     · rw [e2] at f1
       injection f1 with f1
       injection f1 with f1 _ f4
       subst f1 f4
       exact .inr ⟨hB,cs,ds',fr,e1,f2,f3.trans e3⟩⟩
def RT (T:TypeId) (B:Nat):Gr.Rl:=⟨RtS T B,RtS.refl T B,fun h k=>h.tr k,fun h=>⟨h.os,h.tape,h.output,h.size,fun k hk=>.inl (h.block k hk)⟩⟩
theorem RtS.below {T:TypeId}{B:Nat}{w w':World} (h:RtS T B w w') (hB:B≤w.heap.size):Below B w w' :=
 ⟨h.os,h.tape,h.output,h.size,fun k hk=>(h.block k (VG hk hB)).resolve_right fun q=>by have:=q.1;omega⟩
theorem RtS.other {T e:TypeId}{B k:Nat}{w w':World}{cs:Array Value}{fr:Nat × Nat} (h:RtS T B w w') (hk:w.heap[k]?=some (.cells cs e fr)) (he:e≠T):w'.heap[k]?=some (.cells cs e fr):=by
 rcases h.block k (a9 hk) with e1 | ⟨_,ds,_,gr,e1,_,_⟩
 · exact e1.trans hk
 · rw [hk] at e1
   injection e1 with e1
   injection e1 with _ e1
   exact absurd e1 he
theorem RtS.shape {T:TypeId}{B k:Nat}{w w':World}{cs:Array Value}{fr:Nat × Nat} (h:RtS T B w w') (hk:w.heap[k]?=some (.cells cs T fr)):∃ cs':Array Value,w'.heap[k]?=some (.cells cs' T fr)∧cs'.size=cs.size:=by
 rcases h.block k (a9 hk) with e1 | ⟨_,ds,ds',gr,e1,e2,e3⟩
 · exact ⟨cs,e1.trans hk,rfl⟩
 · rw [hk] at e1
   injection e1 with e1
   injection e1 with e1 _ e4
   subst e1 e4
   exact ⟨ds',e2,e3⟩
theorem RtS.set {T:TypeId}{B g:Nat}{w:World}{cs:Array Value}{fr:Nat × Nat} (hg:w.heap[g]?=some (.cells cs T fr)) (hB:B≤g) (i:Nat) (v:Value):RtS T B w (w.setCell ⟨g,i,none⟩ v):=by
 have hb:=Gb.set g i w v
 refine ⟨hb.os,hb.tape,hb.output,hb.size,fun k hk=>?_⟩
 by_cases hkg:k=g
 · subst hkg
   exact .inr ⟨hB,cs,_,fr,hg,aG hg i v,by simp⟩
 · exact .inl (hb.block k hk (fun q=>hkg (by injection q)))
theorem cE.rt {w w':World}{B:Nat}{e T:TypeId}{k:Nat}{v:Value}{xs:List Value} (h:cE w B e k v xs) (he:e≠T) (r:RtS T B w w'):cE w' B e k v xs:=by
 have key:∀ A n c,v=.slice A n c→0<n→∃ b o,A=some ⟨b,o,none⟩∧(b<w.heap.size→w'.heap[b]?=w.heap[b]?)∧(b<B ∨ ∃ cs fr,w'.heap[b]?=some (.cells cs e fr)):=fun A n c hv hn=>by
  obtain ⟨b,o,h1,h2⟩:=h.2 A n c hv hn
  refine ⟨b,o,h1,?_⟩
  rcases h2 with h2 | ⟨cs,fr,h2⟩
  · exact ⟨fun hb=>(r.block b hb).resolve_right fun q=>by have:=q.1;omega,.inl h2⟩
  · have:=r.other h2 he
    exact ⟨fun _=>this.trans h2.symm,.inr ⟨cs,fr,this⟩⟩
 refine ⟨?_,fun A n c hv hn=>?_⟩
 · obtain ⟨A,n,c,rfl,hn,hnc,hcm,hc⟩:=h.1
   refine ⟨A,n,c,rfl,hn,hnc,hcm,fun h0=>?_⟩
   obtain ⟨b,o,rfl,hcell⟩:=hc h0
   obtain ⟨b',o',e1,e2,_⟩:=key _ n c rfl h0
   injection e1 with e1
   injection e1 with e1 e3
   subst e1 e3
   refine ⟨b,o,rfl,fun j u hu=>?_⟩
   have h1:=hcell j u hu
   have h2:=e2 (World.block_lt_of_cell? w _ h1)
   unfold World.cell? at h1 ⊢
   simp only at h1 ⊢
   rw [h2]
   exact h1
 · obtain ⟨b,o,h1,_,h2⟩:=key A n c hv hn
   exact ⟨b,o,h1,h2⟩
theorem cE.set {w:World}{B g:Nat}{e T:TypeId}{k:Nat}{v:Value}{xs:List Value} (h:cE w B e k v xs) {cs:Array Value}{fr:Nat × Nat} (hg:w.heap[g]?=some (.cells cs T fr)) (he:e≠T) (hB:B≤g) (i:Nat) (x:Value):cE (w.setCell ⟨g,i,none⟩ x) B e k v xs :=
 h.rt he (RtS.set hg hB i x)
structure RgS (S:List Nat) (G:Nat→Prop) (w w':World):Prop where
 os:w'.os=w.os
 tape:w'.tape=w.tape
 output:w'.output=w.output
 size:w.heap.size≤w'.heap.size
 block:∀ k,k<w.heap.size→w'.heap[k]?=w.heap[k]? ∨ (G k∧∃ T cs cs' fr,T ∈ S∧w.heap[k]?=some (.cells cs T fr)∧w'.heap[k]?=some (.cells cs' T fr)∧cs'.size=cs.size)
theorem RgS.refl (S:List Nat) (G:Nat→Prop) (w:World):RgS S G w w:=⟨rfl,rfl,rfl,UX _,fun _ _=>.inl rfl⟩
theorem RgS.tr {S:List Nat}{G:Nat→Prop}{a b c:World} (h:RgS S G a b) (h2:RgS S G b c):RgS S G a c :=
 ⟨h2.os.trans h.os,h2.tape.trans h.tape,h2.output.trans h.output,V9 h.size h2.size,fun k hk=>by
   rcases h.block k hk with e1 | ⟨hB,T,cs,cs',fr,hT,e1,e2,e3⟩
   · rcases h2.block k (VG hk h.size) with f1 | ⟨hB,T,cs,cs',fr,hT,f1,f2,f3⟩
     · exact .inl (f1.trans e1)
     · exact .inr ⟨hB,T,cs,cs',fr,hT,e1 ▸ f1,f2,f3⟩
   · rcases h2.block k (VG hk h.size) with f1 | ⟨_,T',ds,ds',gr,_,f1,f2,f3⟩
     · exact .inr ⟨hB,T,cs,cs',fr,hT,e1,f1.trans e2,e3⟩
     · rw [e2] at f1
       injection f1 with f1
       injection f1 with f1 f5 f4
       subst f1 f4 f5
       exact .inr ⟨hB,T,cs,ds',fr,hT,e1,f2,f3.trans e3⟩⟩
theorem RgS.sub {S S':List Nat}{G G':Nat→Prop}{w w':World} (h:RgS S G w w') (hS:∀ T ∈ S,T ∈ S') (hG:∀ k,G k→G' k):RgS S' G' w w' :=
 ⟨h.os,h.tape,h.output,h.size,fun k hk=>(h.block k hk).imp id fun ⟨hB,T,cs,cs',fr,hT,e1,e2,e3⟩=>⟨hG k hB,T,cs,cs',fr,hS T hT,e1,e2,e3⟩⟩
def RG (S:List Nat) (G:Nat→Prop):Gt.Rl:=⟨RgS S G,fun T w w'=>T ∈ S∧RgS [T] G w w',RgS.refl S G,fun h k=>h.tr k,fun h=>⟨h.os,h.tape,h.output,h.size,fun k hk=>.inl (h.block k hk)⟩,fun h=>h.2.sub (fun T hT=>by rw [List.mem_singleton.1 hT];exact h.1) (fun _ h=>h)⟩
theorem RgS.below {S:List Nat}{G:Nat→Prop}{B:Nat}{w w':World} (h:RgS S G w w') (hG:∀ k,G k→B≤k) (hB:B≤w.heap.size):Below B w w' :=
 ⟨h.os,h.tape,h.output,h.size,fun k hk=>(h.block k (VG hk hB)).resolve_right fun q=>by have:=hG k q.1;omega⟩
theorem RgS.keep {S:List Nat}{G:Nat→Prop}{k:Nat}{w w':World}{o:Obj} (h:RgS S G w w') (hk:w.heap[k]?=some o) (hG:¬ G k):w'.heap[k]?=some o :=
 ((h.block k (Array.getElem?_eq_some_iff.1 hk).1).resolve_right fun q=>hG q.1).trans hk
theorem RgS.other {S:List Nat}{G:Nat→Prop}{e:TypeId}{k:Nat}{w w':World}{cs:Array Value}{fr:Nat × Nat} (h:RgS S G w w') (hk:w.heap[k]?=some (.cells cs e fr)) (he:e ∉ S):w'.heap[k]?=some (.cells cs e fr):=by
 rcases h.block k (a9 hk) with e1 | ⟨_,T,ds,_,gr,hT,e1,_,_⟩
 · exact e1.trans hk
 · rw [hk] at e1
   injection e1 with e1
   injection e1 with _ e1
   exact absurd (e1 ▸ hT) he
theorem RgS.shape {S:List Nat}{G:Nat→Prop}{T:TypeId}{k:Nat}{w w':World}{cs:Array Value}{fr:Nat × Nat} (h:RgS S G w w') (hk:w.heap[k]?=some (.cells cs T fr)):∃ cs':Array Value,w'.heap[k]?=some (.cells cs' T fr)∧cs'.size=cs.size:=by
 rcases h.block k (a9 hk) with e1 | ⟨_,T',ds,ds',gr,_,e1,e2,e3⟩
 · exact ⟨cs,e1.trans hk,rfl⟩
 · rw [hk] at e1
   injection e1 with e1
   injection e1 with e1 e5 e4
   subst e1 e4 e5
   exact ⟨ds',e2,e3⟩
theorem RgS.set {S:List Nat}{G:Nat→Prop}{T:TypeId}{g:Nat}{w:World}{cs:Array Value}{fr:Nat × Nat} (hg:w.heap[g]?=some (.cells cs T fr)) (hT:T ∈ S) (hG:G g) (i:Nat) (v:Value):RgS S G w (w.setCell ⟨g,i,none⟩ v):=by
 have hb:=Gb.set g i w v
 refine ⟨hb.os,hb.tape,hb.output,hb.size,fun k hk=>?_⟩
 by_cases hkg:k=g
 · subst hkg
   exact .inr ⟨hG,T,cs,_,fr,hT,hg,aG hg i v,by simp⟩
 · exact .inl (hb.block k hk (fun q=>hkg (by injection q)))
theorem cE.rg {w w':World}{B1:Nat}{e:TypeId}{S:List Nat}{G:Nat→Prop}{k:Nat}{v:Value}{xs:List Value} (h:cE w B1 e k v xs) (he:e ∉ S) (hB:∀ k,G k→B1≤k) (r:RgS S G w w'):cE w' B1 e k v xs:=by
 have key:∀ A n c,v=.slice A n c→0<n→∃ b o,A=some ⟨b,o,none⟩∧(b<w.heap.size→w'.heap[b]?=w.heap[b]?)∧(b<B1 ∨ ∃ cs fr,w'.heap[b]?=some (.cells cs e fr)):=fun A n c hv hn=>by
  obtain ⟨b,o,h1,h2⟩:=h.2 A n c hv hn
  refine ⟨b,o,h1,?_⟩
  rcases h2 with h2 | ⟨cs,fr,h2⟩
  · exact ⟨fun hb=>(r.block b hb).resolve_right fun q=>by have:=hB b q.1;omega,.inl h2⟩
  · have:=r.other h2 he
    exact ⟨fun _=>this.trans h2.symm,.inr ⟨cs,fr,this⟩⟩
 refine ⟨?_,fun A n c hv hn=>?_⟩
 · obtain ⟨A,n,c,rfl,hn,hnc,hcm,hc⟩:=h.1
   refine ⟨A,n,c,rfl,hn,hnc,hcm,fun h0=>?_⟩
   obtain ⟨b,o,rfl,hcell⟩:=hc h0
   obtain ⟨b',o',e1,e2,_⟩:=key _ n c rfl h0
   injection e1 with e1
   injection e1 with e1 e3
   subst e1 e3
   refine ⟨b,o,rfl,fun j u hu=>?_⟩
   have h1:=hcell j u hu
   have h2:=e2 (World.block_lt_of_cell? w _ h1)
   unfold World.cell? at h1 ⊢
   simp only at h1 ⊢
   rw [h2]
   exact h1
 · obtain ⟨b,o,h1,_,h2⟩:=key A n c hv hn
   exact ⟨b,o,h1,h2⟩
def rG (w:World) (g:Nat) (T:TypeId) (n:Nat):Prop:=∃ cs:Array Value,w.heap[g]?=some (.cells cs T (0,0))∧cs.size=n
theorem rG.rg {w w':World}{g n:Nat}{G:Nat→Prop}{T:TypeId}{S:List Nat} (h:rG w g T n) (r:RgS S G w w'):rG w' g T n:=by
 obtain ⟨cs,h1,h2⟩:=h
 obtain ⟨cs',h3,h4⟩:=r.shape h1
 exact ⟨cs',h3,h4.trans h2⟩
theorem rG.ext {w w':World}{g n:Nat}{T:TypeId} (h:rG w g T n) (e:Ext w w'):rG w' g T n:=by
 obtain ⟨cs,h1,h2⟩:=h
 exact ⟨cs,(e.block g (a9 h1)).trans h1,h2⟩
def rH (w:World) (g:Nat):Nat→List Value→World
 | _,[]=>w
 | i,v::vs=>rH (w.setCell ⟨g,i,none⟩ v) g (i+1) vs
theorem jZ:∀ (vs pre post:List Value) (w:World) (g:Nat) (cs:List Value) (T:TypeId) (fr:Nat × Nat),w.heap[g]?=some (.cells (pre++cs++post).toArray T fr)→cs.length=vs.length→(rH w g pre.length vs).heap[g]?=some (.cells (pre++vs++post).toArray T fr)
 | [],pre,post,w,g,cs,T,fr,h,hl=>by
   obtain rfl:cs=[]:=VO hl
   exact h
 | v::vs,pre,post,w,g,c::cs,T,fr,h,hl=>by
   have h1:=aG h pre.length v
   have h2:((pre++c::cs++post).toArray.setIfInBounds pre.length v)=((pre++[v])++cs++post).toArray:=by
    rw [UY]
    congr 1
    rw [VF,List.set_append_right _ _ (UX _),Nat.sub_self]
    simp
   rw [h2] at h1
   have h3:=jZ vs (pre++[v]) post (w.setCell ⟨g,pre.length,none⟩ v) g cs T fr h1 (by simpa using hl)
   rw [V5] at h3
   rw [VF pre [v] vs] at h3
   exact h3
end Go.Proofs.YtkjplpmogfmhkaaGreatDoor
