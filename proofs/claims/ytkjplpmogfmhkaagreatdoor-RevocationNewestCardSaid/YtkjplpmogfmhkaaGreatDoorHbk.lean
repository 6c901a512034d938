/- Parts Jw Jz Af Uj Mi Aa Ac of the proof. -/
import Derived.Test.YtkjplpmogfmhkaaGreatDoorHbf
import Derived.Test.YtkjplpmogfmhkaaGreatDoorHbg
import Derived.Test.YtkjplpmogfmhkaaGreatDoorHbj
namespace Go.Proofs.YtkjplpmogfmhkaaGreatDoor
open Go.RowKit
set_option linter.unusedVariables false
set_option maxRecDepth 100000
theorem pB (g:Nat):∀ (vs:List Value) (i:Nat) (w:World),w.setCells g i vs=OO w g i vs
 | [],i,w=>rfl
 | v::vs,i,w=>pB g vs (i+1) _
theorem Gb.setCells (g:Nat):∀ (vs:List Value) (i:Nat) (w:World),Gb g w (w.setCells g i vs)
 | [],i,w=>Gb.refl _ _
 | v::vs,i,w=>(Gb.set g i w v).tr (Gb.setCells g vs (i+1) _)
theorem aJ.setAt {w:World}{B n c:Nat}{A:Option Addr}{l:List NC}{i:Nat} (h:aJ w B 56 11 (.slice A n c) (aD l)) (hi:i<l.length) (x:NC) :
 ∃ g,A=some ⟨g,0,none⟩/\B<=g/\w.there g (i*11) 11/\g<w.heap.size/\c≠0/\aJ (w.setCells g (i*11) (aH x)) B 56 11 (.slice A n c) (aD (l.set i x)):=by
 obtain ⟨A',n',c',e,hn,h⟩:=h
 injection e with e1 e2 e3
 subst e1 e2 e3
 rw [bJ] at hn
 obtain rfl:n=l.length:=by omega
 rcases h with ⟨h0,_⟩ | ⟨g,cur,rfl,hB,hg,hnc,hcm,hcs,ht⟩
 · omega
 · refine ⟨g,rfl,hB,fun j hj=>⟨?_,by simp [World.frozen?,hg]⟩,aA hg,by omega,?_⟩
   · rw [cell_of_row w g _ cur _ _ hg]
     simp
     have:i*11+11<=c*11:=by have:(i+1)*11<=c*11:=Nat.mul_le_mul_right _ (by omega);omega
     omega
   · rw [pB]
     have hcc:cur.toList=aD l++cur.toList.drop (l.length*11):=by rw [<- ht,List.take_append_drop]
     have h1:w.heap[g]?=some (.cells (aD l++cur.toList.drop (l.length*11)).toArray 56 (0,0)):=by rw [hg,<- hcc,Array.toArray_toList]
     have h2:=N9 w g h1 rfl i hi x
     have hl:(l.set i x).length=l.length:=List.length_set
     have hls:(aD (l.set i x)).length=l.length*11:=by rw [bJ,hl]
     have hlc:l.length*11<=c*11:=Nat.mul_le_mul_right _ hnc
     refine ⟨_,l.length,c,rfl,hls.symm,.inr ⟨g,_,rfl,hB,h2,hnc,hcm,?_,?_⟩⟩
     · have hcl:cur.toList.length=c*11:=by rw [Array.length_toList,hcs]
       show (aD (l.set i x)++cur.toList.drop (l.length*11)).length=c*11
       rw [YJ,hls,List.length_drop,hcl]
       omega
     · show (aD (l.set i x)++_).take _=_
       rw [<- hls]
       exact List.take_left
theorem fD {P:Program}{ops:Array Oper}{rest:List Oper}{o:Oper}{a:Act}{w:World}{Q:Exit->Act->World->Prop} (hgd:o.guard=none) (ty:TypeId) (x y:Operand) (ho:o.op=.store ty x y) (hd:o.dst=none)
 (b f:Nat) (cells:List Value) (hx:a.eval x=.pointer (some ⟨b,f,none⟩)) (hy:a.eval y=.agg cells.toArray)
 (ht:w.there b f cells.length) (hi:(P.info? ty).map (·.size)=some cells.length) (h1:cells.toArray.all (·.oneCell')=true)
 (h:wpList P ops Q rest a (w.setCells b f cells)):wpList P ops Q (o::rest) a w :=
 wpList_store_mid hgd ty x y ho b f cells.toArray hx hy ht hi h1 (by rw [hd];exact h)
def dcR (D b:Nat):Gr.Rl where
 rel w w':=Gb D w w'/\((∃ M,cI w D b M)->∃ M,cI w' D b M)
 refl w:=⟨Gb.refl _ _,id⟩
 tr h k:=⟨h.1.tr k.1,fun q=>k.2 (h.2 q)⟩
 ext e:=⟨Gb.of _ e,fun ⟨M,h⟩=>⟨M,h.ext e⟩⟩
theorem lP {D b:Nat}{w:World} (n:Int) (h:∃ M,cI w D b M) (n1:1<=n) (n2:n<=4611686018427387904) :
 Calls Tryz.prog 111 #[.pointer (some ⟨D,0,none⟩),.int .i64 n] w fun e w'=>∃ v,e=.returned v/\(dcR D b).rel w w'/\∃ z:Int,v=.int .i64 z/\0<=z/\z<n:=by
 obtain ⟨M,h⟩:=h
 exact (lF n w h n2).mono fun e w' ⟨q1,q2,q3,q4⟩=>⟨_,q1,⟨q2,fun _=>⟨_,q3⟩⟩,dv M n,rfl,(qQ M n1).1,(qQ M n1).2⟩
def GZ (n:Int):aE:=fun v _=>∃ z:Int,v=.int .i64 z/\0<=z/\z<n
theorem oJ (r:Gr.Rl) (n:Int):r.stable (GZ n):=fun _ _ _ _ h=>h
theorem W8 {a:AU}{ds:List Int} (h:AuI a ds):smL a.roots/\smL a.links/\(ds≠[]->smN a.sg/\smN a.ls):=by
 refine ⟨fun c hc=>?_,fun c hc=>?_,fun hd=>⟨?_,?_⟩⟩
 · obtain ⟨i,hi⟩:=List.getElem?_of_mem hc
   obtain ⟨k,d,num,_,_,_,_,q⟩:=h.rt i c hi
   exact vZ q.ck
 · obtain ⟨i,hi⟩:=List.getElem?_of_mem hc
   obtain ⟨k,k',d,num,_,_,_,_,_,q⟩:=h.lk i c hi
   exact vZ q.ck
 · obtain ⟨k,d,num,_,_,_,_,_,q⟩:=h.sg hd
   exact vZ q.ck
 · obtain ⟨k,d,num,_,_,_,_,_,q⟩:=h.ls hd
   exact vZ q.ck
def iF (e:TypeId):Prop:=e=56 \/ e=3 \/ e=80 \/ e=103 \/ e=121 \/ e=177
theorem tT:iF 56:=.inl rfl
theorem sP:iF 3:=.inr (.inl rfl)
theorem XJ:iF 80:=.inr (.inr (.inl rfl))
theorem UU:iF 103:=.inr (.inr (.inr (.inl rfl)))
theorem XL:iF 121:=.inr (.inr (.inr (.inr (.inl rfl))))
theorem XM:iF 177:=.inr (.inr (.inr (.inr (.inr rfl))))
theorem UV:¬ iF 98:=by unfold iF;decide
theorem UW:¬ iF 217:=by unfold iF;decide
def Kp (w w':World):Prop:=∀ (e:TypeId) (b:Nat) (cs:Array Value) (fr:Nat × Nat),iF e->w.heap[b]?=some (.cells cs e fr)->w'.heap[b]?=some (.cells cs e fr)
section
variable {w w' w'':World}
theorem Kp.refl (w:World):Kp w w:=fun _ _ _ _ _ h=>h
theorem Kp.tr (h:Kp w w') (k:Kp w' w''):Kp w w'':=fun e b cs fr he q=>k e b cs fr he (h e b cs fr he q)
theorem Kp.ext (e:Ext w w'):Kp w w':=fun _ b _ _ _ h=>(e.block b (aA h)).trans h
theorem Kp.gb {g T:Nat}{cs0:Array Value}{fr0:Nat × Nat} (hg:w.heap[g]?=some (.cells cs0 T fr0)) (hT:¬ iF T) (e:w.grownBy w' (some g)):Kp w w':=fun t b cs fr ht h=>by
 refine (e.block b (aA h) (fun q=>?_)).trans h
 injection q with q
 subst q
 rw [hg] at h
 injection h with h
 injection h with _ h _
 exact hT (h ▸ ht)
theorem Kp.own {B T k:Nat}{v:Value}{xs:List Value} (o:aJ w B T k v xs) (hT:¬ iF T) (g:w.grownBy w' (aO v)):Kp w w':=fun t b cs fr ht h =>
 (g.block b (aA h) (fun q=>o.row_blk h (fun e=>hT (e.symm ▸ ht)) q.symm)).trans h
theorem bQ.kp {e k:Nat}{v:Value}{xs:List Value} (h:bQ w 0 e k v xs) (he:iF e) (r:Kp w w'):bQ w' 0 e k v xs:=by
 have key:∀ A n c,v=.slice A n c->0<n->∃ b o,A=some ⟨b,o,none⟩/\w'.heap[b]?=w.heap[b]?/\∃ cs fr,w'.heap[b]?=some (.cells cs e fr):=fun A n c hv hn=>by
  obtain ⟨b,o,h1,h2⟩:=h.2 A n c hv hn
  rcases h2 with h2 | ⟨cs,fr,h2⟩
  · omega
  · exact ⟨b,o,h1,(r e b cs fr he h2).trans h2.symm,cs,fr,r e b cs fr he h2⟩
 refine ⟨?_,fun A n c hv hn=>?_⟩
 · obtain ⟨A,n,c,rfl,hn,hnc,hcm,hc⟩:=h.1
   refine ⟨A,n,c,rfl,hn,hnc,hcm,fun h0=>?_⟩
   obtain ⟨b,o,rfl,hcell⟩:=hc h0
   obtain ⟨b',o',e1,e2,_⟩:=key _ n c rfl h0
   injection e1 with e1
   injection e1 with e1 e3
   subst e1 e3
   refine ⟨b,o,rfl,fun j u hu=>?_⟩
   have h1:=hcell j u hu
   unfold World.cell? at h1 ⊢
   simp only at h1 ⊢
   rw [e2]
   exact h1
 · obtain ⟨b,o,h1,_,h2⟩:=key A n c hv hn
   exact ⟨b,o,h1,.inr h2⟩
def rF {α:Type} (K:LK α) (w:World) (v:Value) (l:List α):Prop:=∃ ps:List (α × Value),ps.map Prod.fst=l/\bQ w 0 K.T K.k v (K.cells ps)/\∀ p ∈ ps,bQ w 0 K.E K.ek p.2 (K.inn p.1)
theorem rF.kp {α:Type}{K:LK α}{v:Value}{l:List α} (h:rF K w v l) (hT:iF K.T) (hE:iF K.E) (r:Kp w w'):rF K w' v l:=by
 obtain ⟨ps,h1,h2,h3⟩:=h
 exact ⟨ps,h1,h2.kp hT r,fun p hp=>(h3 p hp).kp hE r⟩
theorem rF.rd {α:Type}{K:LK α}{v:Value}{l:List α} (h:rF K w v l):RdX K w v l:=by
 obtain ⟨ps,h1,h2,h3⟩:=h
 exact ⟨ps,h1,h2.rd,fun p hp=>(h3 p hp).rd⟩
structure StS (w:World) (s0 s1 s2 s3 s4:SlT) (S:ST):Prop where
 r:bQ w 0 56 11 (slV s0) (aD S.roots)
 p:bQ w 0 56 11 (slV s1) (aD S.pool)
 m:rF kM w (slV s2) S.ms
 v:rF kR w (slV s3) S.rs
 d:rF kD w (slV s4) S.ds
theorem StS.kp {s0 s1 s2 s3 s4:SlT}{S:ST} (h:StS w s0 s1 s2 s3 s4 S) (k:Kp w w'):StS w' s0 s1 s2 s3 s4 S :=
 ⟨h.r.kp tT k,h.p.kp tT k,h.m.kp XJ tT k,h.v.kp UU sP k,h.d.kp XL XM k⟩
theorem StS.rd {s0 s1 s2 s3 s4:SlT}{S:ST} (h:StS w s0 s1 s2 s3 s4 S):StR w s0 s1 s2 s3 s4 S:=⟨h.r.rd,h.p.rd,h.m.rd,h.v.rd,h.d.rd⟩
theorem zT (w:World) (e k:Nat) (A:Option Addr):bQ w 0 e k (.slice A 0 0) []:=(aJ.empty w 0 e k A).safe 0
theorem sQ {α:Type} (K:LK α) (w:World) (A:Option Addr):rF K w (.slice A 0 0) []:=⟨[],rfl,zT _ _ _ _,fun p hp=>(by cases hp)⟩
def zS:SlT:=(none,0,0)
structure AuS (n:Int) (w:World) (x:AB) (a:AU) (ds:List Int):Prop where
 R:bQ w 0 56 11 x.R (aD a.roots)
 L:bQ w 0 56 11 x.L (aD a.links)
 S:bQ w 0 3 1 x.S (aQ a.secs)
 st:x.st=a.st
 sg:x.sg=a.sg
 ls:x.ls=a.ls
 ssec:x.ssec=a.ssec
 lsec:x.lsec=a.lsec
 ai:AuI a ds
 ne:1<=ds.length/\ds.length<=4/\∀ d ∈ ds,d<=40060
 one:qZ x
 li:1<=x.li/\x.li<=1+n
theorem AuS.kp {n:Int}{x:AB}{a:AU}{ds:List Int} (h:AuS n w x a ds) (k:Kp w w'):AuS n w' x a ds :=
 ⟨h.R.kp tT k,h.L.kp tT k,h.S.kp sP k,h.st,h.sg,h.ls,h.ssec,h.lsec,h.ai,h.ne,h.one,h.li⟩
theorem AuS.mono {n n':Int}{x:AB}{a:AU}{ds:List Int} (h:AuS n w x a ds) (k:n<=n'):AuS n' w x a ds :=
 ⟨h.R,h.L,h.S,h.st,h.sg,h.ls,h.ssec,h.lsec,h.ai,h.ne,h.one,by have:=h.li;omega⟩
theorem AuS.more {n:Int}{x:AB}{a:AU}{ds:List Int} (h:AuS n w x a ds):AuS (n+1) w { x with li:=x.li+1 } a ds :=
 ⟨h.R,h.L,h.S,h.st,h.sg,h.ls,h.ssec,h.lsec,h.ai,h.ne,⟨h.one.R,h.one.L,h.one.S,h.one.V,h.one.D,h.one.Z⟩,by have:=h.li;show 1<=x.li+1/\x.li+1<=1+(n+1);omega⟩
theorem AbR.auS {B:Nat}{x:AB}{a:AU}{ds:List Int} (h:AbR w B x a) (hi:AuI a ds) (hn:1<=ds.length/\ds.length<=4/\∀ d ∈ ds,d<=40060) (hl:x.li=1) (hV:x.V=.slice none 0 0) (hD:x.D=.slice none 0 0) (hZ:x.Z=.slice none 0 0):AuS 0 w x a ds :=
 ⟨h.o1.safe 0,h.o2.safe 0,h.o3.safe 0,h.st,h.sg,h.ls,h.ssec,h.lsec,hi,hn,⟨h.o1.one,h.o2.one,h.o3.one,by rw [hV];rfl,by rw [hD];rfl,by rw [hZ];rfl⟩,by rw [hl];omega⟩
def AuL (n:Int) (w:World) (xs:List AB):Prop:=∀ x ∈ xs,∃ a ds,AuS n w x a ds
theorem AuL.kp {n:Int}{xs:List AB} (h:AuL n w xs) (k:Kp w w'):AuL n w' xs:=fun x hx=>by
 obtain ⟨a,ds,q⟩:=h x hx
 exact ⟨a,ds,q.kp k⟩
theorem AuL.mono {n n':Int}{xs:List AB} (h:AuL n w xs) (k:n<=n'):AuL n' w xs:=fun x hx=>by
 obtain ⟨a,ds,q⟩:=h x hx
 exact ⟨a,ds,q.mono k⟩
theorem AuS.sm {n:Int}{x:AB}{a:AU}{ds:List Int} (h:AuS n w x a ds):smL a.roots/\smL a.links/\smN a.sg/\smN a.ls:=by
 obtain ⟨h1,h2,h3⟩:=W8 h.ai
 have h4:=h3 (fun q=>by have:=h.ne.1;rw [q] at this;exact absurd this (by decide))
 exact ⟨h1,h2,h4.1,h4.2⟩
end
def abL (x:AB):List Value:=(bE x).toList
theorem C8 (x:AB):(abL x).toArray=bE x:=Array.toArray_toList
theorem uP (x:AB):(abL x).length=33:=rfl
theorem UA {x:AB} (h:qZ x):∀ u ∈ abL x,u.oneCell'=true:=by
 have:=dE h
 rw [Array.all_eq_true_iff_forall_mem] at this
 exact fun u hu=>this u (Array.mem_toList_iff.1 hu)
def sR (xs:List AB):List Value:=xs.flatMap abL
theorem xI (xs:List AB):(sR xs).length=xs.length*33:=iZ abL 33 uP xs
theorem W9:kI Tryz.prog 70 98 33 384:=by
 have h:(Tryz.prog.info? 98).map (fun i=>(i.zero,i.size,i.bytes))=some (some (.agg (bE dG)),33,384):=by kernel_rfl
 obtain ⟨i,h1,h2,h3,h4⟩:=info_parts h
 exact ⟨i,_,Tryz.underlying70,h1,h2,h3,h4,rfl⟩
theorem aJ.setFlat {α:Type}{row:α->List Value}{T k:Nat} (hlen:∀ a,(row a).length=k) (hk:0<k) {w:World}{B n c i:Nat}{A:Option Addr}{l:List α}{a:α} (ho:aJ w B T k (.slice A n c) (l.flatMap row)) (hi:i<l.length) :
 ∃ g,A=some ⟨g,0,none⟩/\B<=g/\w.there g (i*k) k/\(∃ cs,w.heap[g]?=some (.cells cs T (0,0)))/\n=l.length/\n<=c/\c<=maxLen/\aJ (w.setCells g (i*k) (row a)) B T k (.slice A n c) ((l.set i a).flatMap row):=by
 obtain ⟨A',n',c',e,hn,hc⟩:=ho
 injection e with e1 e2 e3
 subst e1 e2 e3
 have fl:=fun l:List α=>iZ row k hlen l
 rw [fl] at hn
 obtain rfl:n=l.length:=ZD hk hn
 rcases hc with ⟨h0,_⟩ | ⟨g,cur,rfl,hB,hg,hnc,hcm,hcs,ht⟩
 · omega
 have hiK:i*k+k<=c*k:=by rw [<- Nat.succ_mul];exact Nat.mul_le_mul_right _ (by omega)
 refine ⟨g,rfl,hB,fun j hj=>⟨?_,by simp [World.frozen?,hg]⟩,⟨_,hg⟩,rfl,hnc,hcm,?_⟩
 · rw [cell_of_row w g _ cur _ _ hg]
   simp
   omega
 · have e:l=l.take i++[l[i]]++l.drop (i+1):=by
    rw [YW,List.singleton_append,<- List.drop_eq_getElem_cons hi,List.take_append_drop]
   have e2:l.set i a=l.take i++[a]++l.drop (i+1):=by
    rw [List.set_eq_take_append_cons_drop,if_pos hi,YW]
    rfl
   have hcc:cur.toList=l.flatMap row++cur.toList.drop (l.length*k):=by rw [<- ht,List.take_append_drop]
   generalize hR:cur.toList.drop (l.length*k)=R at hcc
   have hl:((l.take i).flatMap row).length=i*k:=by rw [fl,YY,Nat.min_eq_left (Nat.le_of_lt hi)]
   have h':w.heap[g]?=some (.cells ((l.take i).flatMap row++row l[i]++((l.drop (i+1)).flatMap row++R)).toArray T (0,0)):=by
    rw [hg]
    congr 2
    rw [<- Array.toArray_toList (xs:=cur),hcc]
    congr 1
    conv=>lhs;rw [e,List.flatMap_append,List.flatMap_append,List.flatMap_singleton]
    simp only [YW]
   have h2:=lE (row a) ((l.take i).flatMap row) ((l.drop (i+1)).flatMap row++R) w g (row l[i]) T (0,0) h' (by rw [hlen,hlen])
   rw [hl,<- fU] at h2
   have h3:((l.take i).flatMap row++row a++((l.drop (i+1)).flatMap row++R))=(l.set i a).flatMap row++R:=by
    rw [e2,List.flatMap_append,List.flatMap_append,List.flatMap_singleton]
    simp only [YW]
   rw [h3] at h2
   have hls:((l.set i a).flatMap row).length=l.length*k:=by rw [fl,List.length_set]
   have hRl:R.length=c*k - l.length*k:=by rw [<- hR,List.length_drop,Array.length_toList,hcs]
   have hlc:l.length*k<=c*k:=Nat.mul_le_mul_right _ hnc
   refine ⟨_,l.length,c,rfl,hls.symm,.inr ⟨g,_,rfl,hB,h2,hnc,hcm,?_,?_⟩⟩
   · show ((l.set i a).flatMap row++R).length=c*k
     rw [YJ,hls,hRl]
     omega
   · show ((l.set i a).flatMap row++R).take _=_
     rw [<- hls]
     exact List.take_left
theorem aJ.rangeFlat {α:Type}{row:α->List Value}{T k:Nat} (hlen:∀ a,(row a).length=k) (hk:0<k) {w:World}{B n c i:Nat}{A:Option Addr}{l:List α}{a:α} (ho:aJ w B T k (.slice A n c) (l.flatMap row)) (hi:l[i]?=some a) :
 ∃ g,A=some ⟨g,0,none⟩/\B<=g/\g<w.heap.size/\n=l.length/\n<=c/\c<=maxLen/\w.rangeAt g (i*k) (row a):=by
 obtain ⟨A',n',c',e,hn,hc⟩:=ho
 injection e with e1 e2 e3
 subst e1 e2 e3
 rw [iZ row k hlen] at hn
 obtain rfl:n=l.length:=ZD hk hn
 obtain ⟨hil,rfl⟩:=List.getElem?_eq_some_iff.1 hi
 rcases hc with ⟨h0,_⟩ | ⟨g,cur,rfl,hB,hg,hnc,hcm,hcs,ht⟩
 · omega
 refine ⟨g,rfl,hB,aA hg,rfl,hnc,hcm,fun j u hu=>?_⟩
 have hj:j<k:=by have:=(List.getElem?_eq_some_iff.1 hu).1;rwa [hlen] at this
 rw [cell_of_row w g _ cur _ _ hg]
 have h1:=mY row k hlen l i hil j hj
 rw [hu,<- ht,List.getElem?_take] at h1
 split at h1
 · simpa using h1
 · cases h1
theorem j3 {w w':World}{g o:Nat}{cs:List Value} (h:w.rangeAt g o cs) (hg:g<w.heap.size) (e:Ext w w'):w'.rangeAt g o cs:=fun j v hv=>(e.cell (p:=⟨g,o+j,none⟩) hg).trans (h j v hv)
theorem NE (W:World) (x:AB):(Instr.buildSlice 70 1 [(0,abV x)].toArray).run Tryz.prog W=.ok (.slice (some ⟨W.heap.size,0,none⟩) 1 1) (W.alloc (.cells (bE x) 98)):=by
 unfold abV bE
 go_simp
theorem QN {w:World}{g T k:Nat}{xs:List Value} (h:w.heap[g]?=some (.cells xs.toArray T (0,0))) (n:Nat) (hn:n*k=xs.length) (hm:n<=maxLen):RdK w k (.slice (some ⟨g,0,none⟩) n n) xs :=
 ⟨_,n,n,rfl,hn,YF _,hm,fun _=>⟨g,0,rfl,fun j u hu=>by
   rw [YR,cell_of_row w g j _ _ (0,0) h,List.getElem?_toArray]
   exact hu⟩⟩
open Gd (dT kV)
structure AcZ (w wr:World) (s0 s1 s2 s3 s4 t0 t1 t2 t3 t4:SlT) (S:ST) (r:RV) (v:Value) (g:Nat):Prop where
 ext:Ext w wr
 s:wr.heap[w.heap.size]?=some (.cells (aM s0 s1 s2 s3 s4) 75 (0,0))
 r:bM wr (w.heap.size+1) r v
 z:wr.heap[w.heap.size+1+1]?=some (.cells #[.slice none 0 0,.slice none 0 0,.slice none 0 0,.slice none 0 0,.slice none 0 0] 75 (0,0))
 o:wr.heap[g]?=some (.cells (aM t0 t1 t2 t3 t4) 75 (0,0))
 own:StO wr (w.heap.size+1+1+1) t0 t1 t2 t3 t4 S
 hg:w.heap.size+1+1+1<=g
section
variable {w wr wx:World}{s0 s1 s2 s3 s4 t0 t1 t2 t3 t4:SlT}{S S':ST}{r:RV}{v:Value}{g:Nat}
theorem AcZ.tr (h:AcZ w wr s0 s1 s2 s3 s4 t0 t1 t2 t3 t4 S r v g) (e:Ext wr wx):AcZ w wx s0 s1 s2 s3 s4 t0 t1 t2 t3 t4 S r v g :=
 ⟨h.ext.tr e,(e.block _ (aA h.s)).trans h.s,h.r.ext e,(e.block _ (aA h.z)).trans h.z,(e.block _ (aA h.o)).trans h.o,h.own.ext e,h.hg⟩
theorem AcZ.fin (h:AcZ w wr s0 s1 s2 s3 s4 t0 t1 t2 t3 t4 S r v g) (cs:Array Value):Ext w (wr.setRow (w.heap.size+1+1) cs)/\StR (wr.setRow (w.heap.size+1+1) cs) t0 t1 t2 t3 t4 S :=
 ⟨aS h.ext (by omega) _,(h.own.gbB (g:=w.heap.size+1+1) (by omega) (Gb.setRow _ _ _)).rd⟩
theorem StO.gr {B gR:Nat}{cs:Array Value} (h:StO wr B t0 t1 t2 t3 t4 S) (hg:wr.heap[gR]?=some (.cells cs 103 (0,0))) (e:wr.grownBy wx (some gR)) (o3:hO kR wx B (slV t3) S'.rs) (h0:S'.roots=S.roots) (h1:S'.pool=S.pool) (h2:S'.ms=S.ms) (h4:S'.ds=S.ds):StO wx B t0 t1 t2 t3 t4 S' :=
 ⟨by rw [h0];exact h.o0.grown e (.inr (h.o0.row_blk hg (by decide))),by rw [h1];exact h.o1.grown e (.inr (h.o1.row_blk hg (by decide))),by rw [h2];exact h.o2.gb hg (by decide) (by decide) e,o3,by rw [h4];exact h.o4.gb hg (by decide) (by decide) e⟩
theorem StO.gr2 {B B2:Nat}{v2:Value}{x2:List Value}{t3':SlT} (h:StO wr B t0 t1 t2 t3 t4 S) (o:aJ wr B2 103 8 v2 x2) (e:wr.grownBy wx (aO v2)) (o3:hO kR wx B (slV t3') S'.rs) (h0:S'.roots=S.roots) (h1:S'.pool=S.pool) (h2:S'.ms=S.ms) (h4:S'.ds=S.ds):StO wx B t0 t1 t2 t3' t4 S' :=
 ⟨by rw [h0];exact h.o0.grown e (o.row_ne h.o0 (by decide)),by rw [h1];exact h.o1.grown e (o.row_ne h.o1 (by decide)),by rw [h2];exact h.o2.grow o (by decide) (by decide) e,o3,by rw [h4];exact h.o4.grow o (by decide) (by decide) e⟩
theorem eY.form {α:Type}{K:LK α}{B n c i:Nat}{A:Option Addr}{ps:List (α × Value)} (h:eY K wr B (.slice A n c) ps) (hi:i<ps.length):∃ g cur,A=some ⟨g,0,none⟩/\n=ps.length/\n<=c/\c<=maxLen/\B<=g/\wr.heap[g]?=some (.cells cur K.T (0,0)):=by
 obtain ⟨A',n',c',e,hn,hc⟩:=h.1
 injection e with e1 e2 e3
 subst e1 e2 e3
 rw [K.cells_len] at hn
 obtain rfl:n=ps.length:=ZD K.pos hn
 rcases hc with ⟨h0,_⟩ | ⟨g,cur,rfl,hB,hg,hnc,hcm,_,_⟩
 · omega
 · exact ⟨g,cur,rfl,rfl,hnc,hcm,hB,hg⟩
theorem StO.gst {B gS:Nat}{cs:Array Value} (h:StO wr B t0 t1 t2 t3 t4 S) (hg:wr.heap[gS]?=some (.cells cs 75 (0,0))) (e:wr.grownBy wx (some gS)):StO wx B t0 t1 t2 t3 t4 S :=
 ⟨h.o0.grown e (.inr (h.o0.row_blk hg (by decide))),h.o1.grown e (.inr (h.o1.row_blk hg (by decide))),h.o2.gb hg (by decide) (by decide) e,h.o3.gb hg (by decide) (by decide) e,h.o4.gb hg (by decide) (by decide) e⟩
theorem AcZ.app {ps:List (RV × Value)}{u:Value}{A8:Option Addr}{n8 c8:Nat}{w8:World} (h:AcZ w wr s0 s1 s2 s3 s4 t0 t1 t2 t3 t4 S r v g) (hOP:eY kR wr (w.heap.size+1+1+1) (slV t3) ps) (hps:ps.map Prod.fst=S.rs) (hi:aJ w8 (w.heap.size+1+1+1) 3 1 u (aQ r.ser))
 (o8:aJ w8 (w.heap.size+1+1+1) 103 8 (.slice A8 n8 c8) (kR.cells ps++aY r u)) (g8:wr.grownBy w8 (aO (slV t3))) :
 w8.cell? ⟨g,3,none⟩=some (.slice t3.1 t3.2.1 t3.2.2)/\g<w8.heap.size/\w8.frozen? ⟨g,3,none⟩=false/\AcZ w (w8.setCell ⟨g,3,none⟩ (.slice A8 n8 c8)) s0 s1 s2 s3 s4 t0 t1 t2 (A8,n8,c8) t4 ⟨S.roots,S.pool,S.ms,S.rs++[r],S.ds⟩ r v g:=by
 have low:∀ k,k<w.heap.size+1+1+1->k<wr.heap.size->w8.heap[k]?=wr.heap[k]?:=fun k hk hl=>g8.block k hl (fun q=>by have:=aZ hOP.1 k q.symm;omega)
 have ho:w8.heap[g]?=some (.cells (aM t0 t1 t2 t3 t4) 75 (0,0)):=(g8.block g (aA h.o) (fun q=>hOP.1.row_blk h.o (by decide) q.symm)).trans h.o
 have hG:=h.hg
 have hlt:=aA ho
 have hx:Below (w.heap.size+1+1+1) wr w8:=⟨g8.os,g8.tape,g8.output,g8.size,fun k hk=>g8.block k (YX hk (YO hG (Nat.le_of_lt (aA h.o)))) (fun q=>by have:=aZ hOP.1 k q.symm;omega)⟩
 have keep:∀ k,k≠g->(w8.setCell ⟨g,3,none⟩ (.slice A8 n8 c8)).heap[k]?=w8.heap[k]?:=fun k hk=>aT hk
 have own8:StO w8 (w.heap.size+1+1+1) t0 t1 t2 (A8,n8,c8) t4 ⟨S.roots,S.pool,S.ms,S.rs++[r],S.ds⟩:=h.own.gr2 (t3':=(A8,n8,c8)) (S':=⟨S.roots,S.pool,S.ms,S.rs++[r],S.ds⟩) hOP.1 g8 ⟨ps++[(r,u)],by rw [List.map_append,hps];rfl,by rw [<- kR.cells_snoc];exact o8,fun p hp=>(List.mem_append.1 hp).elim (fun q=>(hOP.2 p q).grown g8 (hOP.1.row_ne (hOP.2 p q) kR.ne.symm)) (fun q=>by rw [List.mem_singleton.1 q];exact hi)⟩ rfl rfl rfl rfl
 refine ⟨by rw [cell_of_row _ _ 3 _ _ _ ho];rfl,hlt,by simp [World.frozen?,ho],?_⟩
 refine ⟨(h.ext.trans (hx.mono (by omega))).setCell (p:=⟨g,3,none⟩) (by show w.heap.size<=g;omega) _,(keep _ (by omega)).trans ((low _ (by omega) (aA h.s)).trans h.s),(keep _ (by omega)).trans ((low _ (by omega) h.r.lt).trans h.r),(keep _ (by omega)).trans ((low _ (by omega) (aA h.z)).trans h.z),?_,own8.gst ho (Gb.set g 3 w8 _),hG⟩
 have h9:=aF ho 3 (.slice A8 n8 c8)
 exact h9
theorem AcZ.keep {ps:List (RV × Value)} (h:AcZ w wr s0 s1 s2 s3 s4 t0 t1 t2 t3 t4 S r v g) (hOP:eY kR wr (w.heap.size+1+1+1) (slV t3) ps) (g8:wr.grownBy wx (aO (slV t3))):wx.heap[g]?=some (.cells (aM t0 t1 t2 t3 t4) 75 (0,0))/\bM wx (w.heap.size+1) r v/\Ext w wx :=
 have hG:=h.hg
 have hx:Below (w.heap.size+1+1+1) wr wx:=⟨g8.os,g8.tape,g8.output,g8.size,fun k hk=>g8.block k (YX hk (YO hG (Nat.le_of_lt (aA h.o)))) (fun q=>by have:=aZ hOP.1 k q.symm;omega)⟩
 ⟨(g8.block g (aA h.o) (fun q=>hOP.1.row_blk h.o (by decide) q.symm)).trans h.o,(hx.block _ (by omega)).trans h.r,h.ext.trans (hx.mono (by omega))⟩
end
theorem kL {α β:Type}:∀ (ps:List (α × β)) (i:Nat) (a:α) (b:β),(ps.set i (a,b)).map Prod.fst=(ps.map Prod.fst).set i a
 | [],_,_,_=>rfl
 | p::ps,0,a,b=>rfl
 | p::ps,i+1,a,b=>congrArg (p.1::·) (kL ps i a b)
def UX (w:World) (S:ST) (k:Int) (e:Ending) (w':World):Prop:=∃ t0 t1 t2 t3 t4:SlT,e=.returned (.tuple #[bH t0 t1 t2 t3 t4,.int .i64 k])/\StR w' t0 t1 t2 t3 t4 S/\Ext w w'
def GRv (B:Nat) (r:RV):aE:=fun v w=>∃ A n c,v=rvV r (.slice A n c)/\aJ w B 3 1 (.slice A n c) (aQ r.ser)
theorem IS (B:Nat) (r:RV):cZ (GRv B r):=fun v w w' e ⟨A,n,c,h1,h2⟩=>⟨A,n,c,h1,h2.ext e⟩
set_option maxHeartbeats 16000000 in
theorem kN (s0 s1 s2 s3 s4:SlT) (S:ST) (r:RV) (v:Value) (day:Int) (w:World) (hS:StR w s0 s1 s2 s3 s4 S) (hB:StB S) (hv:RdI w .i64 v r.ser) (hs:r.st.length<=maxLen) (hl:r.ser.length<=1000000) (E:dS w 1) :
 Calls Tryz.prog 68 #[bH s0 s1 s2 s3 s4,rvV r v,.int .i64 day] w (UX w (accR S r day).1 (accR S r day).2):=by
 obtain ⟨A,n,c,rfl,hn,-⟩:=hv.ints
 subst hn
 obtain ⟨wz,hwz⟩:∃ wz,wz=((w.alloc (stO s0 s1 s2 s3 s4)).alloc (.cells #[.string (aK r.st),.int .i64 r.num,.int .i64 r.day,.int .i64 r.nxt,.slice A r.ser.length c,.int .i64 r.iss,.int .i64 r.e,.int .i64 r.s] 103)).alloc (.cells #[.slice none 0 0,.slice none 0 0,.slice none 0 0,.slice none 0 0,.slice none 0 0] 75):=⟨_,rfl⟩
 have e1:Ext w (w.alloc (stO s0 s1 s2 s3 s4)):=(Below.refl _ _).alloc (YF _) _
 have e2:Ext (w.alloc (stO s0 s1 s2 s3 s4)) ((w.alloc (stO s0 s1 s2 s3 s4)).alloc (.cells #[.string (aK r.st),.int .i64 r.num,.int .i64 r.day,.int .i64 r.nxt,.slice A r.ser.length c,.int .i64 r.iss,.int .i64 r.e,.int .i64 r.s] 103)):=(Below.refl _ _).alloc (YF _) _
 have e3:Ext ((w.alloc (stO s0 s1 s2 s3 s4)).alloc (.cells #[.string (aK r.st),.int .i64 r.num,.int .i64 r.day,.int .i64 r.nxt,.slice A r.ser.length c,.int .i64 r.iss,.int .i64 r.e,.int .i64 r.s] 103)) wz:=by rw [hwz];exact (Below.refl _ _).alloc (YF _) _
 have hsz:wz.heap.size=w.heap.size+1+1+1:=by rw [hwz];simp
 have z1:wz.heap[w.heap.size]?=some (.cells (aM s0 s1 s2 s3 s4) 75 (0,0)):=((e2.tr e3).block _ (by simp)).trans (aB w _)
 have z2:bM wz (w.heap.size+1) r (.slice A r.ser.length c):=by
  have:=(bM.new (w.alloc (stO s0 s1 s2 s3 s4)) r (.slice A r.ser.length c)).ext e3
  rwa [show (w.alloc (stO s0 s1 s2 s3 s4)).heap.size=w.heap.size+1 by simp] at this
 have z3:wz.heap[w.heap.size+1+1]?=some (.cells #[.slice none 0 0,.slice none 0 0,.slice none 0 0,.slice none 0 0,.slice none 0 0] 75 (0,0)):=by
  have:=aB ((w.alloc (stO s0 s1 s2 s3 s4)).alloc (.cells #[.string (aK r.st),.int .i64 r.num,.int .i64 r.day,.int .i64 r.nxt,.slice A r.ser.length c,.int .i64 r.iss,.int .i64 r.e,.int .i64 r.s] 103)) (.cells #[.slice none 0 0,.slice none 0 0,.slice none 0 0,.slice none 0 0,.slice none 0 0] 75)
  rw [show ((w.alloc (stO s0 s1 s2 s3 s4)).alloc (.cells #[.string (aK r.st),.int .i64 r.num,.int .i64 r.day,.int .i64 r.nxt,.slice A r.ser.length c,.int .i64 r.iss,.int .i64 r.e,.int .i64 r.s] 103)).heap.size=w.heap.size+1+1 by simp] at this
  rw [hwz]
  exact this
 have EZ:=ZH (e1.tr (e2.tr e3))
 have HCS:=ZH (fun W (e:Ext w W)=>IF s0 s1 s2 s3 s4 S W (hS.ext e) hB)
 have HCK:=ZH (fun W (e:Ext w W)=>wQ r (.slice A r.ser.length c) W (hv.ext e) hs)
 have HSG:=ZH (fun W (e:Ext w W)=>II s0 s1 s2 s3 s4 S r (.slice A r.ser.length c) day W (hS.ext e) hB (hv.ext e) hs (E.below e))
 have HPL:=ZH (fun W (e:Ext w W)=>sJ s0 s1 s2 s3 s4 S.rs r.st W (hS.r3.ext e).rdV)
 have HCR:=ZH (fun W (e:Ext w W)=>E9 r (.slice A r.ser.length c) W (hv.ext e) hl)
 have HR3:=ZH hS.r3
 have HS:=ZH z1
 have HLS:=ZH hB.ls
 obtain ⟨ac,hac⟩:∃ ac,accR S r day=ac:=⟨_,rfl⟩
 rw [hac]
 have HAC:=ZH hac
 have HZ2:=ZH z2
 have HZ3:=ZH z3
 have HZ1:=ZH z1
 clear hS hv hs hl E e1 e2 e3 z1 z2 z3 hac hB
 unfold bH rvV
 go_enter Tryz.func68,Tryz.ntmps68
 go_upto_region 1 with fail
 rw [<- hwz]
 clear hwz
 go_wp2_with (refine wpList_load_row rfl 75 _ rfl w.heap.size rfl 75 (aM s0 s1 s2 s3 s4) (0,0) _ HS.out Tryz.underlying75 rfl aN ?_)
 refine (HCS.out wz EZ.out).mono ?_
 rintro e w1 ⟨t0,t1,t2,t3,t4,rfl,own,b1⟩
 obtain ⟨wo,hwo⟩:∃ wo,wo=w1.alloc (.cells #[.slice t0.1 t0.2.1 t0.2.2,.slice t1.1 t1.2.1 t1.2.2,.slice t2.1 t2.2.1 t2.2.2,.slice t3.1 t3.2.1 t3.2.2,.slice t4.1 t4.2.1 t4.2.2] 75):=⟨_,rfl⟩
 have eo:Ext w1 wo:=by rw [hwo];exact (Below.refl _ _).alloc (YF _) _
 have ho:wo.heap[w1.heap.size]?=some (.cells (aM t0 t1 t2 t3 t4) 75 (0,0)):=by rw [hwo];exact aB w1 _
 have b9:=b1.tr eo
 obtain ⟨g,hg⟩:∃ g,w1.heap.size=g:=⟨_,rfl⟩
 have Z1:Hid (AcZ w wo s0 s1 s2 s3 s4 t0 t1 t2 t3 t4 S r (.slice A r.ser.length c) g):=ZH ⟨EZ.out.tr b9,(b9.block _ (aA HZ1.out)).trans HZ1.out,HZ2.out.ext b9,(b9.block _ (aA HZ3.out)).trans HZ3.out,by rw [<- hg];exact ho,(own.ext eo).mono (by omega),by have:=b1.size;omega⟩
 clear eo ho b1 b9 own HZ1 HZ2 HZ3 HS EZ HCS hsz
 unfold bH
 go_upto_region 2 with fail
 rw [<- hwo]
 try rw [hg]
 clear hwo hg
 have HR:=ZH Z1.out.r.row
 go_wp2_with (refine wpList_load_row rfl 103 _ rfl (w.heap.size+1) rfl 103 (bI r (.slice A r.ser.length c)) (0,0) _ HR.out Tryz.underlying103 rfl bA ?_)
 refine (HCK.out wo Z1.out.ext).mono ?_
 rintro e w2 ⟨rfl,b2⟩
 have Z2:=ZH (Z1.out.tr b2)
 clear b2 HR Z1 HCK
 by_cases hc:ckR r=0
 case neg =>
  have HA:=ZH (show ac=(S,ckR r) by rw [<- HAC.out];exact if_pos hc)
  have hb:(ckR r != 0)=true:=by simpa using hc
  clear hc
  have HO:=ZH Z2.out.o
  have HZ:=ZH Z2.out.z
  have H1:=ZH (bT t0 t1 t2 t3 t4)
  go_wp2_with (first | (refine wpList_load_row rfl 75 _ rfl g rfl 75 (aM t0 t1 t2 t3 t4) (0,0) _ HO.out Tryz.underlying75 rfl aN ?_) | (refine aL rfl 75 _ _ rfl rfl (w.heap.size+1+1) (aM t0 t1 t2 t3 t4) rfl rfl 75 #[.slice none 0 0,.slice none 0 0,.slice none 0 0,.slice none 0 0,.slice none 0 0] HZ.out aN rfl H1.out ?_))
  have HY:=ZH (aX (cells:=aM t0 t1 t2 t3 t4) HZ.out)
  refine bodyPost_ret (v:=.tuple #[.agg (aM t0 t1 t2 t3 t4),.int .i64 (ckR r)]) ?_ rfl ⟨t0,t1,t2,t3,t4,by rw [HA.out];rfl,by rw [HA.out];exact (Z2.out.fin _).2,(Z2.out.fin _).1⟩
  simp [results,Tryz.results68,asAddr,run_loadVar_row _ (w.heap.size+1+1) 75 75 (aM t0 t1 t2 t3 t4) (0,0) _ HY.out Tryz.underlying75 rfl aN]
 have HC:=ZH hc
 rw [hc]
 clear hc
 have r2:=Z2.out.r.c2
 have rl:=Z2.out.r.lt
 by_cases d1:day<r.day
 case pos =>
  have HA:=ZH (show ac=(S,64) by rw [<- HAC.out];unfold accR;rw [if_neg (fun q=>q HC.out),if_pos d1])
  go_upto_region 6 with fail
  clear r2 rl d1
  have HO:=ZH Z2.out.o
  have HZ:=ZH Z2.out.z
  have H1:=ZH (bT t0 t1 t2 t3 t4)
  go_wp2_with (first | (refine wpList_load_row rfl 75 _ rfl g rfl 75 (aM t0 t1 t2 t3 t4) (0,0) _ HO.out Tryz.underlying75 rfl aN ?_) | (refine aL rfl 75 _ _ rfl rfl (w.heap.size+1+1) (aM t0 t1 t2 t3 t4) rfl rfl 75 #[.slice none 0 0,.slice none 0 0,.slice none 0 0,.slice none 0 0,.slice none 0 0] HZ.out aN rfl H1.out ?_))
  have HY:=ZH (aX (cells:=aM t0 t1 t2 t3 t4) HZ.out)
  refine bodyPost_ret (v:=.tuple #[.agg (aM t0 t1 t2 t3 t4),.int .i64 64]) ?_ rfl ⟨t0,t1,t2,t3,t4,by rw [HA.out];rfl,by rw [HA.out];exact (Z2.out.fin _).2,(Z2.out.fin _).1⟩
  simp [results,Tryz.results68,asAddr,run_loadVar_row _ (w.heap.size+1+1) 75 75 (aM t0 t1 t2 t3 t4) (0,0) _ HY.out Tryz.underlying75 rfl aN]
 have HD1:=ZH (show ¬ day<r.day by omega)
 go_upto_region 7 with fail
 clear r2 rl d1
 have HS:=ZH Z2.out.s
 have HR:=ZH Z2.out.r.row
 go_wp2_with (first | (refine wpList_load_row rfl 75 _ rfl w.heap.size rfl 75 (aM s0 s1 s2 s3 s4) (0,0) _ HS.out Tryz.underlying75 rfl aN ?_) | (refine wpList_load_row rfl 103 _ rfl (w.heap.size+1) rfl 103 (bI r (.slice A r.ser.length c)) (0,0) _ HR.out Tryz.underlying103 rfl bA ?_))
 refine (HSG.out w2 Z2.out.ext).mono ?_
 rintro e w3 ⟨rfl,b3⟩
 have Z3:=ZH (Z2.out.tr b3)
 clear b3 HS HR Z2 HSG
 obtain ⟨sv,hsv⟩:∃ sv,fY S r day=sv:=⟨_,rfl⟩
 rw [hsv]
 have HSV:=ZH hsv
 clear hsv
 by_cases d2:sv=0
 case neg =>
  have HA:=ZH (show ac=(S,sv) by rw [<- HAC.out];unfold accR;rw [if_neg (fun q=>q HC.out),if_neg (by have:=HD1.out;omega),HSV.out,if_pos d2])
  have hb:(sv != 0)=true:=by simpa using d2
  clear d2
  have HO:=ZH Z3.out.o
  have HZ:=ZH Z3.out.z
  have H1:=ZH (bT t0 t1 t2 t3 t4)
  go_wp2_with (first | (refine wpList_load_row rfl 75 _ rfl g rfl 75 (aM t0 t1 t2 t3 t4) (0,0) _ HO.out Tryz.underlying75 rfl aN ?_) | (refine aL rfl 75 _ _ rfl rfl (w.heap.size+1+1) (aM t0 t1 t2 t3 t4) rfl rfl 75 #[.slice none 0 0,.slice none 0 0,.slice none 0 0,.slice none 0 0,.slice none 0 0] HZ.out aN rfl H1.out ?_))
  have HY:=ZH (aX (cells:=aM t0 t1 t2 t3 t4) HZ.out)
  refine bodyPost_ret (v:=.tuple #[.agg (aM t0 t1 t2 t3 t4),.int .i64 sv]) ?_ rfl ⟨t0,t1,t2,t3,t4,by rw [HA.out];rfl,by rw [HA.out];exact (Z3.out.fin _).2,(Z3.out.fin _).1⟩
  simp [results,Tryz.results68,asAddr,run_loadVar_row _ (w.heap.size+1+1) 75 75 (aM t0 t1 t2 t3 t4) (0,0) _ HY.out Tryz.underlying75 rfl aN]
 subst d2
 go_upto_region 10 with fail
 have HS:=ZH Z3.out.s
 have r0:=Z3.out.r.c0
 have rl:=Z3.out.r.lt
 go_wp2_with (refine wpList_load_row rfl 75 _ rfl w.heap.size rfl 75 (aM s0 s1 s2 s3 s4) (0,0) _ HS.out Tryz.underlying75 rfl aN ?_)
 refine (HPL.out w3 Z3.out.ext).mono ?_
 rintro e w4 ⟨rfl,b4⟩
 have Z4:=ZH (Z3.out.tr b4)
 clear b4 HS r0 rl Z3 HPL
 have HBR:=ZH (show ac=match S.rs.findIdx? (fun t=>decide (t.st=r.st)) with
  | some i=>if r.num<=(S.rs.getD i bY).num then (S,67) else (⟨S.roots,S.pool,S.ms,S.rs.set i r,S.ds⟩,0)
  | none=>if 16<=S.rs.length then (S,72) else (⟨S.roots,S.pool,S.ms,S.rs++[r],S.ds⟩,0) by
    rw [<- HAC.out];unfold accR;rw [if_neg (fun q=>q HC.out),if_neg (by have:=HD1.out;omega),HSV.out,if_neg (by decide)];rfl)
 clear HAC HC HD1 HSV
 obtain ⟨A3,n3,c3,e3,hn3,hnc3,hcm3,hel3⟩:=HR3.out.at_
 obtain ⟨sA3,sn3,sc3⟩:=s3
 unfold slV at e3
 injection e3 with e31 e32 e33
 simp only at e31 e32 e33
 subst e31 e32 e33 hn3
 unfold maxLen at hcm3
 have HEL:=ZH hel3
 clear hel3
 cases hf:S.rs.findIdx? (fun t=>decide (t.st=r.st)) with
 | none =>
   have HP:=show plV S.rs r.st=-1 by unfold plV;rw [hf]
   rw [HP]
   rw [hf] at HBR
   clear HP hf
   go_upto_region 12 with fail
   refine Gd.aI 12 (by kernel_rfl) (by kernel_rfl) ?_
   simp only [YT,YQ,YU,YV]
   intro w1 hw1
   repeat (first | (refine Gd.dJ (by exact ⟨_,rfl,rfl,rfl⟩) rfl rfl ?_;simp only [Act.put,YG,YI,YH]) | (refine Gd.aC rfl fun K hK=>?_;go_big_quiet_op;refine hK _ ?_;clear hK K))
   refine Gd.cQ (fun m=>?_)
   have Z5:=ZH (Z4.out.tr (hw1.tr m.2))
   clear hw1 Z4
   generalize m.1=w5 at *
   show wpList _ _ _ _ _ _
   have s3c:w5.cell? ⟨w.heap.size,3,none⟩=some (.slice sA3 S.rs.length sc3):=by rw [cell_of_row _ _ 3 _ _ _ Z5.out.s];rfl
   have sl:=aA Z5.out.s
   by_cases d3:16<=S.rs.length
   case pos =>
    have HA:=ZH (show ac=(S,72) by rw [HBR.out];exact if_pos d3)
    have hd:(16:Int)<=(S.rs.length:Int):=by omega
    go_upto_region 17 with fail
    clear s3c sl hd d3
    have HO:=ZH Z5.out.o
    have HZ:=ZH Z5.out.z
    have H1:=ZH (bT t0 t1 t2 t3 t4)
    go_wp2_with (first | (refine wpList_load_row rfl 75 _ rfl g rfl 75 (aM t0 t1 t2 t3 t4) (0,0) _ HO.out Tryz.underlying75 rfl aN ?_) | (refine aL rfl 75 _ _ rfl rfl (w.heap.size+1+1) (aM t0 t1 t2 t3 t4) rfl rfl 75 #[.slice none 0 0,.slice none 0 0,.slice none 0 0,.slice none 0 0,.slice none 0 0] HZ.out aN rfl H1.out ?_))
    have HY:=ZH (aX (cells:=aM t0 t1 t2 t3 t4) HZ.out)
    refine bodyPost_ret (v:=.tuple #[.agg (aM t0 t1 t2 t3 t4),.int .i64 72]) ?_ rfl ⟨t0,t1,t2,t3,t4,by rw [HA.out];rfl,by rw [HA.out];exact (Z5.out.fin _).2,(Z5.out.fin _).1⟩
    simp [results,Tryz.results68,asAddr,run_loadVar_row _ (w.heap.size+1+1) 75 75 (aM t0 t1 t2 t3 t4) (0,0) _ HY.out Tryz.underlying75 rfl aN]
   have HA:=ZH (show ac=(⟨S.roots,S.pool,S.ms,S.rs++[r],S.ds⟩,0) by rw [HBR.out];exact if_neg d3)
   have hd:¬ (16:Int)<=(S.rs.length:Int):=by omega
   have HLN:=ZH (show S.rs.length<=15 by omega)
   go_upto_region 11 with fail
   clear s3c sl hd d3
   obtain ⟨ps,hps,OP⟩:=Z5.out.own.o3
   have hnt:t3.2.1=ps.length:=by
    obtain ⟨A',n',c',e',hn',-⟩:=OP.1
    unfold slV at e'
    injection e' with _ e2 _
    rw [e2]
    rw [kR.cells_len] at hn'
    exact ZD kR.pos hn'
   have HLX:=ZH (show t3.2.1*8=(kR.cells ps).length by rw [hnt,kR.cells_len];rfl)
   have HL15:=ZH (show t3.2.1<=15 by rw [hnt];have h1:=congrArg List.length hps;rw [List.length_map] at h1;have:=HLN.out;omega)
   have k1:=qF OP.1
   have HOP:=ZH OP
   have HPS:=ZH hps
   clear hps OP hnt
   refine Gr.aI (r:=(apR (w.heap.size+1+1+1) (slV t3) t3.2.1 (kR.cells ps) r)) 7 (by kernel_rfl) (by kernel_rfl) ?_
   simp only [YT,YQ,YU,YV]
   intro wq hw1
   have JL:∀ m:(apR (w.heap.size+1+1+1) (slV t3) t3.2.1 (kR.cells ps) r).Lt wq,PX (w.heap.size+1+1+1) (slV t3) t3.2.1 (kR.cells ps) r w5 m.1:=fun m=>((apR (w.heap.size+1+1+1) (slV t3) t3.2.1 (kR.cells ps) r).tr hw1 m.2) HOP.out.1
   have JK:=fun m:(apR (w.heap.size+1+1+1) (slV t3) t3.2.1 (kR.cells ps) r).Lt wq=>Z5.out.keep HOP.out (JL m).g
   have JO:∀ m:(apR (w.heap.size+1+1+1) (slV t3) t3.2.1 (kR.cells ps) r).Lt wq,aJ m.1 (w.heap.size+1+1+1) 103 8 (slV t3) (kR.cells ps):=fun m=>(JL m).p1 HOP.out.1
   have JS:∀ m:(apR (w.heap.size+1+1+1) (slV t3) t3.2.1 (kR.cells ps) r).Lt wq,(w.heap.size+1+1+1)<=m.1.heap.size:=fun m=>YO Z5.out.hg (Nat.le_of_lt (aA (JK m).1))
   have ko:∀ m:(apR (w.heap.size+1+1+1) (slV t3) t3.2.1 (kR.cells ps) r).Lt wq,m.1.cell? ⟨g,3,none⟩=some (.slice t3.1 t3.2.1 t3.2.2):=fun m=>by rw [cell_of_row _ _ 3 _ _ _ (JK m).1];rfl
   have kg:∀ m:(apR (w.heap.size+1+1+1) (slV t3) t3.2.1 (kR.cells ps) r).Lt wq,g<m.1.heap.size:=fun m=>aA (JK m).1
   have r0:=fun m:(apR (w.heap.size+1+1+1) (slV t3) t3.2.1 (kR.cells ps) r).Lt wq=>(JK m).2.1.c0
   have r1:=fun m:(apR (w.heap.size+1+1+1) (slV t3) t3.2.1 (kR.cells ps) r).Lt wq=>(JK m).2.1.c1
   have r2:=fun m:(apR (w.heap.size+1+1+1) (slV t3) t3.2.1 (kR.cells ps) r).Lt wq=>(JK m).2.1.c2
   have r3:=fun m:(apR (w.heap.size+1+1+1) (slV t3) t3.2.1 (kR.cells ps) r).Lt wq=>(JK m).2.1.c3
   have r4:=fun m:(apR (w.heap.size+1+1+1) (slV t3) t3.2.1 (kR.cells ps) r).Lt wq=>(JK m).2.1.c4
   have r5:=fun m:(apR (w.heap.size+1+1+1) (slV t3) t3.2.1 (kR.cells ps) r).Lt wq=>(JK m).2.1.c5
   have r6:=fun m:(apR (w.heap.size+1+1+1) (slV t3) t3.2.1 (kR.cells ps) r).Lt wq=>(JK m).2.1.c6
   have r7:=fun m:(apR (w.heap.size+1+1+1) (slV t3) t3.2.1 (kR.cells ps) r).Lt wq=>(JK m).2.1.c7
   have rl:=fun m:(apR (w.heap.size+1+1+1) (slV t3) t3.2.1 (kR.cells ps) r).Lt wq=>(JK m).2.1.lt
   have HJL:=ZH JL
   have HJK:=ZH JK
   have HJO:=ZH JO
   have HJS:=ZH JS
   clear JL JK JO JS
   repeat (first | (refine Gr.dZ (Gd.gR rfl) _ rfl rfl rfl rfl rfl ?_;simp only [Act.put,YG,YI,YH]) | (refine Gr.aC rfl fun K hK=>?_;go_big_quiet_op;refine hK _ ?_;clear hK K))
   refine Gr.aR (Gd.gR rfl) (GvA (w.heap.size+1+1+1) (slV t3) (kR.cells ps) r) (IB _ _ _ _ _) (fun _=>[.agg #[.string (aK r.st),.int .i64 r.num,.int .i64 r.day,.int .i64 r.nxt,.slice A r.ser.length c,.int .i64 r.iss,.int .i64 r.e,.int .i64 r.s]]) rfl rfl rfl rfl rfl (by kernel_rfl) rfl (fun _=>rfl) (fun m f hf=>(HCR.out m.1 (HJK.out m).2.2).mono fun e w'' ⟨A6,n6,c6,h1,h2,h3⟩=>⟨_,h1,(apR (w.heap.size+1+1+1) (slV t3) t3.2.1 (kR.cells ps) r).ext h3,(HJO.out m).ext h3,A6,n6,c6,rfl,h2.k1.mono (HJS.out m)⟩) ?_
   simp only [Act.put,YG,YI,YH]
   refine Gr.bD (Gd.gR rfl) (GlA (w.heap.size+1+1+1) w5.heap.size (slV t3) (kR.cells ps) r) (IC k1 _ _ _) (fun f=>[(0,f 40)]) rfl rfl rfl rfl rfl (fun _=>rfl) (fun m f hf=>?_) ?_
   · obtain ⟨o,A6,n6,c6,e6,O6⟩:=hf 40 _ rfl rfl
     rw [e6]
     have eA:Ext m.1 (m.1.alloc (.cells (aY r (.slice A6 n6 c6)).toArray 103)):=(Below.refl _ _).alloc (YF _) _
     exact ⟨_,_,N2 m.1 r A6 n6 c6,(apR (w.heap.size+1+1+1) (slV t3) t3.2.1 (kR.cells ps) r).ext eA,o.ext eA,_,_,rfl,(HJL.out m).g.size,aB _ _,O6.ext eA⟩
   simp only [Act.put,YG,YI,YH]
   refine Gr.f9 (Gd.gR rfl) (GaA (w.heap.size+1+1+1) (slV t3) t3.2.1 (kR.cells ps) r) (ID _ _ _ _ _) (fun _=>.slice t3.1 t3.2.1 t3.2.2) (fun f=>f 41) rfl rfl rfl rfl rfl rfl (fun _=>rfl) (fun _=>rfl) (fun m f hf=>?_) ?_
   · have h41:GlA (w.heap.size+1+1+1) w5.heap.size (slV t3) (kR.cells ps) r (f 41) m.1:=hf 41 _ rfl rfl
     obtain ⟨u,R6,U6⟩:=h41.rd
     obtain ⟨A8,c8,w8,q1,q2,q3⟩:=TG h41.1 HLX.out R6 U6 (by have:=HL15.out;omega) (HJS.out m)
     exact ⟨_,w8,q1,fun _=>q2,q2.p1 h41.1,A8,c8,rfl,q3⟩
   simp only [Act.put,YG,YI,YH]
   repeat (first | (refine Gr.dZ (Gd.gR rfl) _ rfl rfl rfl rfl rfl ?_;simp only [Act.put,YG,YI,YH]) | (refine Gr.aC rfl fun K hK=>?_;go_big_quiet_op;refine hK _ ?_;clear hK K))
   refine Gr.cH (fun m f hf=>?_)
   obtain ⟨o9,A8,c8,e42,u,o8,U8⟩:=hf 42 _ rfl
   simp only [bO]
   simp only [Act.put,YG,YI,YH]
   rw [e42]
   obtain ⟨q3,ql,qf,z9⟩:=AcZ.app Z5.out HOP.out HPS.out U8 o8 (HJL.out m).g
   have HZ9:=ZH z9
   clear hf e42 hw1 HJL HJK HJO HJS ko kg r0 r1 r2 r3 r4 r5 r6 r7 rl o9 o8 U8 z9 k1 HOP
   generalize m.1=w8 at *
   generalize f 40=f40 at *
   generalize f 41=f41 at *
   clear m f
   show wpList _ _ _ _ _ _
   have HO:=ZH HZ9.out.o
   have HZ:=ZH HZ9.out.z
   have H1:=ZH (bT t0 t1 t2 (A8,t3.2.1+1,c8) t4)
   go_wp2_with (first | (refine wpList_load_row rfl 75 _ rfl g rfl 75 (aM t0 t1 t2 (A8,t3.2.1+1,c8) t4) (0,0) _ HO.out Tryz.underlying75 rfl aN ?_) | (refine aL rfl 75 _ _ rfl rfl (w.heap.size+1+1) (aM t0 t1 t2 (A8,t3.2.1+1,c8) t4) rfl rfl 75 #[.slice none 0 0,.slice none 0 0,.slice none 0 0,.slice none 0 0,.slice none 0 0] HZ.out aN rfl H1.out ?_))
   have HY:=ZH (aX (cells:=aM t0 t1 t2 (A8,t3.2.1+1,c8) t4) HZ.out)
   refine bodyPost_ret (v:=.tuple #[.agg (aM t0 t1 t2 (A8,t3.2.1+1,c8) t4),.int .i64 0]) ?_ rfl ⟨t0,t1,t2,(A8,t3.2.1+1,c8),t4,by rw [HA.out];rfl,by rw [HA.out];exact (HZ9.out.fin _).2,(HZ9.out.fin _).1⟩
   simp [results,Tryz.results68,asAddr,run_loadVar_row _ (w.heap.size+1+1) 75 75 (aM t0 t1 t2 (A8,t3.2.1+1,c8) t4) (0,0) _ HY.out Tryz.underlying75 rfl aN]
 | some i =>
   have HP:=show plV S.rs r.st=(i:Int) by unfold plV;rw [hf]
   rw [HP]
   rw [hf] at HBR
   have hil:i<S.rs.length:=(List.findIdx?_eq_some_iff_getElem.1 hf).1
   clear HP hf
   obtain ⟨t,ht⟩:∃ t,S.rs[i]?=some t:=⟨_,YL hil⟩
   have HG:=ZH (show S.rs.getD i bY=t by rw [List.getD_eq_getElem?_getD,ht];rfl)
   obtain ⟨b,o,rfl,hbl,u,hcell,hu⟩:=HEL.out i t ht
   have hn1:w.cell? ⟨b,o+i*8+1,none⟩=some (.int .i64 t.num):=by
    have:=hcell 1 _ rfl
    rwa [<- YM] at this
   have HN1:=ZH (And.intro hbl hn1)
   clear hcell hu ht hn1 hbl
   have wi1:IntKind.i64.wrap ((i:Int))=(i:Int):=IntWalk.i64_in _ (by omega)
   have zi1:(0:Int)<=(i:Int):=by omega
   have li1:(i:Int)<(S.rs.length:Int):=by omega
   have ti1:((i:Int)).toNat=i:=by omega
   go_upto_region 12 with fail
   refine Gd.aI 12 (by kernel_rfl) (by kernel_rfl) ?_
   simp only [YT,YQ,YU,YV]
   intro w1 hw1
   have LL:∀ m:Lt w1,Ext w4 m.1:=fun m=>hw1.tr m.2
   have k3:∀ m:Lt w1,m.1.cell? ⟨w.heap.size,3,none⟩=some (.slice (some ⟨b,o,none⟩) S.rs.length sc3):=fun m=>by rw [cell_of_row _ _ 3 _ _ _ (Z4.out.tr (LL m)).s];rfl
   have k1:∀ m:Lt w1,m.1.cell? ⟨b,o+i*8+1,none⟩=some (.int .i64 t.num):=fun m=>((Z4.out.tr (LL m)).ext.cell (p:=⟨b,o+i*8+1,none⟩) HN1.out.1).trans HN1.out.2
   have kr:∀ m:Lt w1,m.1.cell? ⟨w.heap.size+1,1,none⟩=some (.int .i64 r.num):=fun m=>(Z4.out.tr (LL m)).r.c1
   have kl:∀ m:Lt w1,w.heap.size+1<m.1.heap.size:=fun m=>(Z4.out.tr (LL m)).r.lt
   have kl0:∀ m:Lt w1,w.heap.size<m.1.heap.size:=fun m=>Nat.lt_of_succ_lt (kl m)
   have kb:∀ m:Lt w1,b<m.1.heap.size:=fun m=>YX HN1.out.1 (Z4.out.tr (LL m)).ext.size
   repeat (first | (refine Gd.dJ (by exact ⟨_,rfl,rfl,rfl⟩) rfl rfl ?_;simp only [Act.put,YG,YI,YH]) | (refine Gd.aC rfl fun K hK=>?_;go_big_quiet_op;refine hK _ ?_;clear hK K))
   refine Gd.cQ (fun m=>?_)
   have Z5:=ZH (Z4.out.tr (LL m))
   clear hw1 LL k3 k1 kr kl kl0 kb Z4
   generalize m.1=w5 at *
   show wpList _ _ _ _ _ _
   by_cases d3:r.num<=t.num
   case pos =>
    have HA:=ZH (show ac=(S,67) by rw [HBR.out];show (if r.num<=(S.rs.getD i bY).num then _ else _)=_;rw [HG.out];exact if_pos d3)
    go_upto_region 13 with fail
    clear d3
    have HO:=ZH Z5.out.o
    have HZ:=ZH Z5.out.z
    have H1:=ZH (bT t0 t1 t2 t3 t4)
    go_wp2_with (first | (refine wpList_load_row rfl 75 _ rfl g rfl 75 (aM t0 t1 t2 t3 t4) (0,0) _ HO.out Tryz.underlying75 rfl aN ?_) | (refine aL rfl 75 _ _ rfl rfl (w.heap.size+1+1) (aM t0 t1 t2 t3 t4) rfl rfl 75 #[.slice none 0 0,.slice none 0 0,.slice none 0 0,.slice none 0 0,.slice none 0 0] HZ.out aN rfl H1.out ?_))
    have HY:=ZH (aX (cells:=aM t0 t1 t2 t3 t4) HZ.out)
    refine bodyPost_ret (v:=.tuple #[.agg (aM t0 t1 t2 t3 t4),.int .i64 67]) ?_ rfl ⟨t0,t1,t2,t3,t4,by rw [HA.out];rfl,by rw [HA.out];exact (Z5.out.fin _).2,(Z5.out.fin _).1⟩
    simp [results,Tryz.results68,asAddr,run_loadVar_row _ (w.heap.size+1+1) 75 75 (aM t0 t1 t2 t3 t4) (0,0) _ HY.out Tryz.underlying75 rfl aN]
   have HA:=ZH (show ac=(⟨S.roots,S.pool,S.ms,S.rs.set i r,S.ds⟩,0) by rw [HBR.out];show (if r.num<=(S.rs.getD i bY).num then _ else _)=_;rw [HG.out];exact if_neg d3)
   obtain ⟨ps,hps,OP⟩:=Z5.out.own.o3
   have hpl:ps.length=S.rs.length:=by rw [<- hps,List.length_map]
   have hip:i<ps.length:=by omega
   obtain ⟨gR,cur,hAt,hnt,hnct,hcmt,hBg,hgR⟩:=eY.form (show eY kR w5 _ (.slice t3.1 t3.2.1 t3.2.2) ps from OP) hip
   have HT3:=ZH (show (Value.slice t3.1 t3.2.1 t3.2.2)=.slice (some ⟨gR,0,none⟩) ps.length t3.2.2 by rw [hAt,hnt])
   have HOP:=ZH OP
   have HGR:=ZH hgR
   have HPS:=ZH hps
   have HBG:=ZH hBg
   unfold maxLen at hcmt
   rw [hnt] at hnct
   clear hps OP hAt hnt hgR hpl hBg
   go_upto_region 15 with fail
   clear d3
   have wi2:IntKind.i64.wrap ((i:Int))=(i:Int):=IntWalk.i64_in _ (by omega)
   have zi2:(0:Int)<=(i:Int):=by omega
   have li2:(i:Int)<(ps.length:Int):=by omega
   have ti2:((i:Int)).toNat=i:=by omega
   refine Gd.aI 6 (by kernel_rfl) (by kernel_rfl) ?_
   simp only [YT,YQ,YU,YV]
   intro wq hw1
   have LL:∀ m:Lt wq,Ext w5 m.1:=fun m=>hw1.tr m.2
   have ko:∀ m:Lt wq,m.1.cell? ⟨g,3,none⟩=some (.slice (some ⟨gR,0,none⟩) ps.length t3.2.2):=fun m=>by rw [cell_of_row _ _ 3 _ _ _ (Z5.out.tr (LL m)).o,<- HT3.out];rfl
   have kg:∀ m:Lt wq,g<m.1.heap.size:=fun m=>aA (Z5.out.tr (LL m)).o
   have r0:=fun m:Lt wq=>(Z5.out.tr (LL m)).r.c0
   have r1:=fun m:Lt wq=>(Z5.out.tr (LL m)).r.c1
   have r2:=fun m:Lt wq=>(Z5.out.tr (LL m)).r.c2
   have r3:=fun m:Lt wq=>(Z5.out.tr (LL m)).r.c3
   have r4:=fun m:Lt wq=>(Z5.out.tr (LL m)).r.c4
   have r5:=fun m:Lt wq=>(Z5.out.tr (LL m)).r.c5
   have r6:=fun m:Lt wq=>(Z5.out.tr (LL m)).r.c6
   have r7:=fun m:Lt wq=>(Z5.out.tr (LL m)).r.c7
   have rl:=fun m:Lt wq=>(Z5.out.tr (LL m)).r.lt
   repeat (refine Gd.aC rfl fun K hK=>?_;go_big_quiet_op;refine hK _ ?_;clear hK K)
   refine Gd.aR (Gd.gR rfl) (GRv w5.heap.size r) (IS _ _) (fun _=>[.agg #[.string (aK r.st),.int .i64 r.num,.int .i64 r.day,.int .i64 r.nxt,.slice A r.ser.length c,.int .i64 r.iss,.int .i64 r.e,.int .i64 r.s]]) rfl rfl rfl rfl rfl (by kernel_rfl) rfl (fun _=>rfl) (fun m f hf=>(HCR.out m.1 (Z5.out.tr (LL m)).ext).mono fun e w'' ⟨A6,n6,c6,h1,h2,h3⟩=>⟨_,h1,h3,A6,n6,c6,rfl,h2.k1.mono (LL m).size⟩) ?_
   simp only [Act.put,YG,YI,YH]
   repeat (refine Gd.aC rfl fun K hK=>?_;go_big_quiet_op;refine hK _ ?_;clear hK K)
   refine Gd.cH (fun m f hf=>?_)
   obtain ⟨A6,n6,c6,e66,O6⟩:=hf 66 _ rfl
   simp only [bO]
   simp only [Act.put,YG,YI,YH]
   rw [e66]
   have Z6:=ZH (Z5.out.tr (LL m))
   have OP6:=HOP.out.ext (LL m)
   have hBw:=Z5.out.hg
   have hgw:=aA Z5.out.o
   obtain ⟨g2,eg,hBg2,hth,hlt2,⟨cs2,hcs2⟩,OP2⟩:=eY.setAt (A:=t3.1) (n:=t3.2.1) (c:=t3.2.2) (a:=r) (u:=.slice A6 n6 c6) OP6 (O6.mono (by omega)) hip
   have hgg:g2=gR:=by
    have:=HT3.out
    rw [eg] at this
    injection this with h1
    injection h1 with h1
    injection h1
   subst hgg
   have HTH:=ZH (show m.1.there g2 (i*8) (aY r (.slice A6 n6 c6)).length from hth)
   have HONE:=ZH (show (aY r (.slice A6 n6 c6)).toArray.all (·.oneCell')=true by simp [aY,Value.oneCell'])
   have gb:=Gb.setCellsU g2 (aY r (.slice A6 n6 c6)) (i*8) m.1
   have hne:g≠g2:=fun q=>by
    have h1:=Z6.out.o
    rw [q,hcs2] at h1
    injection h1 with h1
    injection h1 with _ h1
    exact absurd h1 (by decide)
   have Z7:Hid (AcZ w (m.1.setCells g2 (i*8) (aY r (.slice A6 n6 c6))) s0 s1 s2 (some ⟨b,o,none⟩,S.rs.length,sc3) s4 t0 t1 t2 t3 t4 ⟨S.roots,S.pool,S.ms,S.rs.set i r,S.ds⟩ r (.slice A r.ser.length c) g):=ZH
    ⟨Gb.below Z6.out.ext gb (by have:=HBG.out;omega),(gb.block _ (aA Z6.out.s) (fun q=>by injection q with q;have:=HBG.out;omega)).trans Z6.out.s,(gb.block _ Z6.out.r.lt (fun q=>by injection q with q;have:=HBG.out;omega)).trans Z6.out.r,
      (gb.block _ (aA Z6.out.z) (fun q=>by injection q with q;have:=HBG.out;omega)).trans Z6.out.z,(gb.block _ (aA Z6.out.o) (fun q=>by injection q with q;exact hne q)).trans Z6.out.o,
      Z6.out.own.gr (S':=⟨S.roots,S.pool,S.ms,S.rs.set i r,S.ds⟩) hcs2 gb ⟨_,by rw [kL,HPS.out],OP2⟩ rfl rfl rfl rfl,Z6.out.hg⟩
   clear hf e66 hw1 LL ko kg r0 r1 r2 r3 r4 r5 r6 r7 rl O6 OP6 hBw hgw eg hBg2 hth hlt2 hcs2 OP2 gb hne HCR Z5 Z6 HOP HGR
   generalize m.1=w6 at *
   clear m f
   show wpList _ _ _ _ _ _
   refine fD rfl 103 _ _ rfl rfl g2 (i*8) (aY r (.slice A6 n6 c6)) rfl rfl HTH.out bA HONE.out ?_
   generalize w6.setCells g2 (i*8) (aY r (.slice A6 n6 c6))=w7 at *
   have HO:=ZH Z7.out.o
   have HZ:=ZH Z7.out.z
   have H1:=ZH (bT t0 t1 t2 t3 t4)
   go_wp2_with (first | (refine wpList_load_row rfl 75 _ rfl g rfl 75 (aM t0 t1 t2 t3 t4) (0,0) _ HO.out Tryz.underlying75 rfl aN ?_) | (refine aL rfl 75 _ _ rfl rfl (w.heap.size+1+1) (aM t0 t1 t2 t3 t4) rfl rfl 75 #[.slice none 0 0,.slice none 0 0,.slice none 0 0,.slice none 0 0,.slice none 0 0] HZ.out aN rfl H1.out ?_))
   have HY:=ZH (aX (cells:=aM t0 t1 t2 t3 t4) HZ.out)
   refine bodyPost_ret (v:=.tuple #[.agg (aM t0 t1 t2 t3 t4),.int .i64 0]) ?_ rfl ⟨t0,t1,t2,t3,t4,by rw [HA.out];rfl,by rw [HA.out];exact (Z7.out.fin _).2,(Z7.out.fin _).1⟩
   simp [results,Tryz.results68,asAddr,run_loadVar_row _ (w.heap.size+1+1) 75 75 (aM t0 t1 t2 t3 t4) (0,0) _ HY.out Tryz.underlying75 rfl aN]
noncomputable def accM (S:ST) (m:MA) (day:Int):ST × Int :=
 if ND S.roots S.pool m day≠0 then (S,ND S.roots S.pool m day) else
 match S.ms.findIdx? (fun t=>decide (t.st=m.st)) with
 | some i=>if m.num<=(S.ms.getD i fO).num then (S,67) else (⟨S.roots,S.pool,S.ms.set i m,S.rs,S.ds⟩,0)
 | none=>if 16<=S.ms.length then (S,72) else (⟨S.roots,S.pool,S.ms++[m],S.rs,S.ds⟩,0)
section
variable {w wr wx:World}{s0 s1 s2 s3 s4 t0 t1 t2 t3 t4:SlT}{S S':ST}{r:MA}{v:Value}{g:Nat}
end
section
variable {α:Type}{p:α->Bool}{l:List α}
def nN (p:α->Bool) (l:List α) (k:Nat):Nat:=k+(l.drop k).findIdx p
theorem FG:nN p l l.length=l.length:=by simp [nN]
theorem zU {k:Nat}{y:α} (h:l[k]?=some y):nN p l k=if p y=true then k else nN p l (k+1):=by
 obtain ⟨hk,rfl⟩:=List.getElem?_eq_some_iff.1 h
 unfold nN
 rw [List.drop_eq_getElem_cons hk,List.findIdx_cons]
 cases p l[k] with
 | true=>simp
 | false=>simp;omega
theorem zV {i:Nat} (h:l.findIdx? p=some i):nN p l 0=i/\i<l.length:=by
 obtain ⟨h1,h2⟩:=List.findIdx?_eq_some_iff_findIdx_eq.1 h
 exact ⟨by simp [nN,h2],h1⟩
theorem zW (h:l.findIdx? p=none):nN p l 0=l.length:=by
 simp [nN,List.findIdx?_eq_none_iff_findIdx_eq.1 h]
end
theorem QO {S:ST}{m:MA}{day:Int} (h:StB S) (hm:smL m.roots) (hl:m.roots.length<=10000):StB (accM S m day).1:=by
 unfold accM
 split
 · exact h
 · split
   · split
     · exact h
     · exact ⟨h.r,h.p,fun x hx=>(List.mem_or_eq_of_mem_set hx).elim (h.m x) (fun e=>e ▸ ⟨hm,hl⟩),h.s,h.d,h.lr,h.lp,by show (S.ms.set _ m).length<=20;rw [List.length_set];exact h.lm,h.ls,h.ld⟩
   · split
     · exact h
     · refine ⟨h.r,h.p,fun x hx=>(List.mem_append.1 hx).elim (h.m x) (fun e=>by rw [List.mem_singleton.1 e];exact ⟨hm,hl⟩),h.s,h.d,h.lr,h.lp,?_,h.ls,h.ld⟩
       show (S.ms++[m]).length<=20
       rw [YJ,List.length_singleton]
       omega
theorem QP {S:ST}{r:RV}{day:Int} (h:StB S) (hl:r.ser.length<=10000):StB (accR S r day).1:=by
 unfold accR
 split
 · exact h
 · split
   · exact h
   · split
     · exact h
     · split
       · split
         · exact h
         · exact ⟨h.r,h.p,h.m,fun x hx=>(List.mem_or_eq_of_mem_set hx).elim (h.s x) (fun e=>e ▸ hl),h.d,h.lr,h.lp,h.lm,by show (S.rs.set _ r).length<=10000;rw [List.length_set];exact h.ls,h.ld⟩
       · split
         · exact h
         · refine ⟨h.r,h.p,h.m,fun x hx=>(List.mem_append.1 hx).elim (h.s x) (fun e=>by rw [List.mem_singleton.1 e];exact hl),h.d,h.lr,h.lp,h.lm,?_,h.ld⟩
           show (S.rs++[r]).length<=10000
           rw [YJ,List.length_singleton]
           omega
structure RaM (w wr:World) (s0 s1 s2 s3 s4:SlT) (m:MA) (v:Value):Prop where
 ext:Ext w wr
 s:wr.heap[w.heap.size]?=some (.cells (aM s0 s1 s2 s3 s4) 75 (0,0))
 m:cY wr (w.heap.size+1) m v
 z:wr.heap[w.heap.size+1+1]?=some (.cells #[.slice none 0 0,.slice none 0 0,.slice none 0 0,.slice none 0 0,.slice none 0 0] 75 (0,0))
 sz:w.heap.size+1+1+1<=wr.heap.size
section
variable {w wr wx:World}{s0 s1 s2 s3 s4:SlT}{m:MA}{v:Value}
theorem RaM.below (h:RaM w wr s0 s1 s2 s3 s4 m v) (e:Below (w.heap.size+1+1+1) wr wx):RaM w wx s0 s1 s2 s3 s4 m v :=
 ⟨h.ext.trans (e.mono (by omega)),(e.block _ (by omega)).trans h.s,(e.block _ (by omega)).trans h.m,(e.block _ (by omega)).trans h.z,YO h.sz e.size⟩
theorem RaM.tr (h:RaM w wr s0 s1 s2 s3 s4 m v) (e:Ext wr wx):RaM w wx s0 s1 s2 s3 s4 m v:=h.below (Below.mono e h.sz)
theorem RaM.put (h:RaM w wr s0 s1 s2 s3 s4 m v) (t2:SlT):RaM w (wr.setCell ⟨w.heap.size,2,none⟩ (.slice t2.1 t2.2.1 t2.2.2)) s0 s1 t2 s3 s4 m v:=by
 have h9:=aF h.s 2 (.slice t2.1 t2.2.1 t2.2.2)
 exact ⟨aG h.ext (YF _),h9,(aT (by omega)).trans h.m,(aT (by omega)).trans h.z,by simpa using h.sz⟩
end
theorem QQ (w:World) (s0 s1 s2 s3 s4:SlT) (m:MA) (v:Value):∃ wz,wz=((w.alloc (stO s0 s1 s2 s3 s4)).alloc (.cells #[.string (aK m.st),.int .i64 m.num,.int .i64 m.day,v,.string (aK m.sg.st),.int .i64 m.sg.kind,.int .i64 m.sg.num,.int .i64 m.sg.iss,.int .i64 m.sg.own,.int .i64 m.sg.key,.int .i64 m.sg.fr,.int .i64 m.sg.un,.int .i64 m.sg.to,.int .i64 m.sg.e,.int .i64 m.sg.s,.int .i64 m.e,.int .i64 m.s] 80)).alloc (.cells #[.slice none 0 0,.slice none 0 0,.slice none 0 0,.slice none 0 0,.slice none 0 0] 75)/\RaM w wz s0 s1 s2 s3 s4 m v:=by
 obtain ⟨w2,h2,TZ⟩:=xG w s0 s1 s2 s3 s4 m v
 have hs:w2.heap.size=w.heap.size+1+1:=by rw [h2];simp
 rw [<- h2]
 have e3:Ext w2 (w2.alloc (.cells #[.slice none 0 0,.slice none 0 0,.slice none 0 0,.slice none 0 0,.slice none 0 0] 75)):=(Below.refl _ _).alloc (YF _) _
 have T3:=TZ.tr e3
 refine ⟨_,rfl,T3.ext,T3.s,T3.m,?_,by simp [hs]⟩
 have:=aB w2 (.cells #[.slice none 0 0,.slice none 0 0,.slice none 0 0,.slice none 0 0,.slice none 0 0] 75)
 rw [hs] at this
 exact this
def RfA (w:World) (s0 s1 s2 s3 s4:SlT) (S:ST) (ps:List (MA × Value)) (m:MA) (v:Value) (r:ST × Int) (e:Ending) (w':World):Prop :=
 ∃ t2:SlT,e=.returned (.tuple #[bH s0 s1 t2 s3 s4,.int .i64 r.2])/\Ext w w'/\((t2=s2/\r.1=S) \/ ∃ qs:List (MA × Value),aJ w' w.heap.size 80 17 (slV t2) (kM.cells qs)/\r.1=⟨S.roots,S.pool,qs.map Prod.fst,S.rs,S.ds⟩/\∀ p ∈ qs,p ∈ ps \/ p=(m,v))
set_option maxHeartbeats 16000000 in
theorem xJ (s0 s1 s2 s3 s4:SlT) (S:ST) (ps:List (MA × Value)) (m:MA) (v:Value) (day:Int) (w:World) (h0:RdN w (slV s0) S.roots) (h1:RdN w (slV s1) S.pool) (h2:RdK w 17 (slV s2) (kM.cells ps)) (hps:ps.map Prod.fst=S.ms) (hin:∀ p ∈ ps,RdK w 11 p.2 (aD p.1.roots))
 (hs1:smL S.roots) (hs2:smL S.pool) (hll:S.roots.length+S.pool.length<=900000) (hl:ps.length<=1000) (hv:RdN w v m.roots) (hs:smL m.roots) (hg:smN m.sg) (ht:m.st.length<=maxLen) (E:dS w 0) :
 Calls Tryz.prog 51 #[bH s0 s1 s2 s3 s4,maV m v,.int .i64 day] w (RfA w s0 s1 s2 s3 s4 S ps m v (accM S m day)):=by
 obtain ⟨wz,hwz,TZ⟩:=QQ w s0 s1 s2 s3 s4 m v
 have hpl:ps.length=S.ms.length:=by rw [<- hps,List.length_map]
 have HVF:=ZH (fun W (e:Ext w W)=>xH s0 s1 s2 s3 s4 S.roots S.pool m v day W (RdK.ext h0 e) (RdK.ext h1 e) hs1 hs2 hll (RdK.ext hv e) hs hg ht (E.below e))
 obtain ⟨A,n,cq,rfl,hn,-⟩:=hv.at_
 subst hn
 have HRX:=ZH (show RdX kM w (slV s2) S.ms from ⟨ps,hps,h2,hin⟩)
 have HON:=ZH (LK.cells_one (K:=kM) (ps:=ps) (fun p hp=>(hin p hp).oneU))
 have HPM:=ZH (And.intro hps hpl)
 have HL:=ZH hl
 have H2:=ZH h2
 have Z0:=ZH TZ
 obtain ⟨ac,hac⟩:∃ ac,accM S m day=ac:=⟨_,rfl⟩
 rw [hac]
 have HAC:=ZH hac
 have HQ:=fun (s:List UInt8)=>gJ s m.st
 have hml:S.ms.length<=1000:=by omega
 clear hac h0 h1 h2 hps hin hs1 hs2 hll hl hv hs hg ht E TZ hpl
 unfold bH maV aP
 go_enter Tryz.func51,Tryz.ntmps51
 go_upto_region 1 with fail
 rw [<- hwz]
 clear hwz
 have HS:=ZH Z0.out.s
 have HR:=ZH Z0.out.m.row
 go_wp2_with (first | (refine wpList_load_row rfl 75 _ rfl w.heap.size rfl 75 (aM s0 s1 s2 s3 s4) (0,0) _ HS.out Tryz.underlying75 rfl aN ?_) | (refine wpList_load_row rfl 80 _ rfl (w.heap.size+1) rfl 80 (aP m (Value.slice A m.roots.length cq)).toArray (0,0) _ HR.out Tryz.underlying80 rfl cP ?_))
 refine (HVF.out wz Z0.out.ext).mono ?_
 rintro e w3 ⟨rfl,b3⟩
 have Z3:=ZH (Z0.out.tr b3)
 clear b3 HS HR Z0 HVF
 obtain ⟨sv,hsv⟩:∃ sv,ND S.roots S.pool m day=sv:=⟨_,rfl⟩
 rw [hsv]
 have HSV:=ZH hsv
 clear hsv
 by_cases d2:sv=0
 case neg =>
  have HA:=ZH (show ac=(S,sv) by rw [<- HAC.out];unfold accM;rw [HSV.out,if_pos d2])
  have hb:(sv != 0)=true:=by simpa using d2
  clear d2
  have HO:=ZH Z3.out.s
  have HZ:=ZH Z3.out.z
  have H1:=ZH (bT s0 s1 s2 s3 s4)
  go_wp2_with (first | (refine wpList_load_row rfl 75 _ rfl w.heap.size rfl 75 (aM s0 s1 s2 s3 s4) (0,0) _ HO.out Tryz.underlying75 rfl aN ?_) | (refine aL rfl 75 _ _ rfl rfl (w.heap.size+1+1) (aM s0 s1 s2 s3 s4) rfl rfl 75 #[.slice none 0 0,.slice none 0 0,.slice none 0 0,.slice none 0 0,.slice none 0 0] HZ.out aN rfl H1.out ?_))
  have HY:=ZH (aX (cells:=aM s0 s1 s2 s3 s4) HZ.out)
  refine bodyPost_ret (v:=.tuple #[.agg (aM s0 s1 s2 s3 s4),.int .i64 sv]) ?_ rfl ⟨s2,by rw [HA.out];rfl,aS Z3.out.ext (by omega) _,.inl ⟨rfl,by rw [HA.out]⟩⟩
  simp [results,Tryz.results51,asAddr,run_loadVar_row _ (w.heap.size+1+1) 75 75 (aM s0 s1 s2 s3 s4) (0,0) _ HY.out Tryz.underlying75 rfl aN]
 subst d2
 have HBR:=ZH (show ac=match S.ms.findIdx? (fun t=>decide (t.st=m.st)) with
  | some i=>if m.num<=(S.ms.getD i fO).num then (S,67) else (⟨S.roots,S.pool,S.ms.set i m,S.rs,S.ds⟩,0)
  | none=>if 16<=S.ms.length then (S,72) else (⟨S.roots,S.pool,S.ms++[m],S.rs,S.ds⟩,0) by
    rw [<- HAC.out];unfold accM;rw [HSV.out,if_neg (fun q=>q rfl)] <;> rfl)
 clear HAC HSV
 obtain ⟨A3,n3,c3,e3,hn3,hnc3,hcm3,hel3⟩:=HRX.out.at_
 obtain ⟨sA3,sn3,sc3⟩:=s2
 unfold slV at e3
 injection e3 with e31 e32 e33
 simp only at e31 e32 e33
 subst e31 e32 e33 hn3
 unfold maxLen at hcm3
 have HEL:=ZH hel3
 clear hel3 HRX
 have k2:w3.cell? ⟨w.heap.size,2,none⟩=some (.slice sA3 S.ms.length sc3):=by rw [cell_of_row _ _ 2 _ _ _ Z3.out.s];rfl
 have kl:=aA Z3.out.s
 have wk:IntKind.i64.wrap ((S.ms.length:Int) - 1)=(S.ms.length:Int) - 1:=IntWalk.i64_in _ (by omega)
 go_wp2_with fail
 clear k2 kl wk
 go_loopw [9,10] (fun s9 s10 wr=>∃ k:Nat,k<=S.ms.length/\s9=.int .i64 ((nN (fun t=>decide (t.st=m.st)) S.ms k:Nat):Int)/\s10=.int .i64 ((k:Int) - 1)/\Hid (RaM w wr s0 s1 (sA3,S.ms.length,sc3) s3 s4 m (Value.slice A m.roots.length cq))) (fun _ s10 _=>(intOf s10+1).toNat)
 case atStart=>exact ⟨S.ms.length,YF _,by rw [FG],rfl,Z3⟩
 case round =>
  clear Z3
  obtain ⟨k,hk,rfl,rfl,Z4⟩:=hrel
  by_cases hk0:k=0
  case neg =>
   obtain ⟨j,rfl⟩:∃ j,k=j+1:=⟨k - 1,by omega⟩
   rw [show ((j+1:Nat):Int) - 1=(j:Int) by omega]
   have hj0:(0:Int)<=(j:Int):=by omega
   obtain ⟨t,hq⟩:∃ t,S.ms[j]?=some t:=⟨_,YL (by omega)⟩
   obtain ⟨b,o,rfl,hbl,u,hcell,hu⟩:=HEL.out j t hq
   have p0:=(Z4.out.ext.cell (p:=⟨b,o+(j*17+0),none⟩) hbl).trans (hcell 0 _ rfl)
   rw [show o+(j*17+0)=o+j*17 by omega] at p0
   have k2:wr.cell? ⟨w.heap.size,2,none⟩=some (.slice (some ⟨b,o,none⟩) S.ms.length sc3):=by rw [cell_of_row _ _ 2 _ _ _ Z4.out.s];rfl
   have kl:=aA Z4.out.s
   have c0:=Z4.out.m.c0
   have cl:=Z4.out.m.lt
   have pl:b<wr.heap.size:=YX hbl Z4.out.ext.size
   have HSTP:=ZH (zU (p:=fun t=>decide (t.st=m.st)) hq)
   clear hcell hu hq hbl
   have wi1:IntKind.i64.wrap ((j:Int))=(j:Int):=IntWalk.i64_in _ (by omega)
   have zi1:(0:Int)<=(j:Int):=by omega
   have li1:(j:Int)<(S.ms.length:Int):=by omega
   have ti1:((j:Int)).toNat=j:=by omega
   have wj:IntKind.i64.wrap ((j:Int) - 1)=(j:Int) - 1:=IntWalk.i64_in _ (by omega)
   by_cases hst:t.st=m.st
   · have HD:=HQ t.st
     rw [decide_eq_true hst] at HD
     have HF:=ZH (show nN (fun t=>decide (t.st=m.st)) S.ms j=j by rw [HSTP.out,if_pos (decide_eq_true hst)])
     clear hst HQ
     go_wp2_with (go_quiet (fail))
     have ZQ:=ZH (Z4.out.tr (Ext.drewN_ wr nq))
     clear p0 k2 kl c0 cl pl HD Z4
     generalize wr.drewN nq=wx at *
     go_wp2_with fail
     go_roundw
     case rel=>exact ⟨j,by omega,by rw [HF.out],by go_num,ZQ⟩
     case measure=>simp [intOf]
   · have HD:=HQ t.st
     rw [decide_eq_false hst] at HD
     have HF:=ZH (show nN (fun t=>decide (t.st=m.st)) S.ms j=nN (fun t=>decide (t.st=m.st)) S.ms (j+1) by rw [HSTP.out,if_neg (by rw [decide_eq_false hst];decide)])
     clear hst HQ
     go_wp2_with (go_quiet (fail))
     have ZQ:=ZH (Z4.out.tr (Ext.drewN_ wr nq))
     clear p0 k2 kl c0 cl pl HD Z4
     generalize wr.drewN nq=wx at *
     go_wp2_with fail
     go_roundw
     case rel=>exact ⟨j,by omega,by rw [HF.out],by go_num,ZQ⟩
     case measure=>simp [intOf]
  case pos =>
  subst hk0
  clear hk
  cases hf:S.ms.findIdx? (fun t=>decide (t.st=m.st)) with
  | none =>
    rw [zW hf]
    rw [hf] at HBR
    clear hf HQ
    go_upto_region 10 with fail
    refine Gd.aI 16 (by kernel_rfl) (by kernel_rfl) ?_
    simp only [YT,YQ,YU,YV]
    intro w1 hw1
    have k3:∀ m1:Lt w1,m1.1.cell? ⟨w.heap.size,2,none⟩=some (.slice sA3 S.ms.length sc3):=fun m1=>by rw [cell_of_row _ _ 2 _ _ _ (Z4.out.tr (hw1.tr m1.2)).s];rfl
    have kl:∀ m1:Lt w1,w.heap.size<m1.1.heap.size:=fun m1=>aA (Z4.out.tr (hw1.tr m1.2)).s
    repeat (first | (refine Gd.dJ (by exact ⟨_,rfl,rfl,rfl⟩) rfl rfl ?_;simp only [Act.put,YG,YI,YH]) | (refine Gd.aC rfl fun K hK=>?_;go_big_quiet_op;refine hK _ ?_;clear hK K))
    refine Gd.cQ (fun m1=>?_)
    have Z5:=ZH (Z4.out.tr (hw1.tr m1.2))
    clear hw1 k3 kl Z4
    generalize m1.1=w5 at *
    show wpList _ _ _ _ _ _
    by_cases d3:16<=S.ms.length
    case pos =>
     have HA:=ZH (show ac=(S,72) by rw [HBR.out];exact if_pos d3)
     have hd:(16:Int)<=(S.ms.length:Int):=by omega
     go_upto_region 12 with fail
     have k3:w5.cell? ⟨w.heap.size,2,none⟩=some (.slice sA3 S.ms.length sc3):=by rw [cell_of_row _ _ 2 _ _ _ Z5.out.s];rfl
     have kl:=aA Z5.out.s
     go_upto_region 13 with fail
     have Z6:=Z5
     clear k3 kl Z5
     try clear hd
     try clear d3
     have HO:=ZH Z6.out.s
     have HZ:=ZH Z6.out.z
     have H1:=ZH (bT s0 s1 (sA3,S.ms.length,sc3) s3 s4)
     go_wp2_with (first | (refine wpList_load_row rfl 75 _ rfl w.heap.size rfl 75 (aM s0 s1 (sA3,S.ms.length,sc3) s3 s4) (0,0) _ HO.out Tryz.underlying75 rfl aN ?_) | (refine aL rfl 75 _ _ rfl rfl (w.heap.size+1+1) (aM s0 s1 (sA3,S.ms.length,sc3) s3 s4) rfl rfl 75 #[.slice none 0 0,.slice none 0 0,.slice none 0 0,.slice none 0 0,.slice none 0 0] HZ.out aN rfl H1.out ?_))
     have HY:=ZH (aX (cells:=aM s0 s1 (sA3,S.ms.length,sc3) s3 s4) HZ.out)
     refine bodyPost_ret (v:=.tuple #[.agg (aM s0 s1 (sA3,S.ms.length,sc3) s3 s4),.int .i64 72]) ?_ rfl ⟨_,by rw [HA.out];rfl,aS Z6.out.ext (by omega) _,.inl ⟨rfl,by rw [HA.out]⟩⟩
     simp [results,Tryz.results51,asAddr,run_loadVar_row _ (w.heap.size+1+1) 75 75 (aM s0 s1 (sA3,S.ms.length,sc3) s3 s4) (0,0) _ HY.out Tryz.underlying75 rfl aN]
    have HA:=ZH (show ac=(⟨S.roots,S.pool,S.ms++[m],S.rs,S.ds⟩,0) by rw [HBR.out];exact if_neg d3)
    have hd:¬ (16:Int)<=(S.ms.length:Int):=by omega
    go_upto_region 12 with fail
    have k3:w5.cell? ⟨w.heap.size,2,none⟩=some (.slice sA3 S.ms.length sc3):=by rw [cell_of_row _ _ 2 _ _ _ Z5.out.s];rfl
    have kl:=aA Z5.out.s
    go_upto_region 14 with fail
    have Z6:=Z5
    clear k3 kl Z5
    try clear hd
    try clear d3
    have k3:w5.cell? ⟨w.heap.size,2,none⟩=some (.slice sA3 S.ms.length sc3):=by rw [cell_of_row _ _ 2 _ _ _ Z6.out.s];rfl
    have kl:=aA Z6.out.s
    have eA:Ext w5 (w5.alloc (.cells #[] 80)):=(Below.refl _ _).alloc (YF _) _
    have k4:=(eA.cell (p:=⟨w.heap.size,2,none⟩) kl).trans k3
    have kl4:=YX kl eA.size
    have Z7:=ZH (Z6.out.tr eA)
    have HRS:=ZH (RdK.ext H2.out Z7.out.ext)
    have XA:=ZH (Below.refl (w.heap.size+1+1+1) (w5.alloc (.cells #[] 80)))
    have HOE:=ZH (aJ.empty (w5.alloc (.cells #[] 80)) (w.heap.size+1+1+1) 80 17 (some ⟨w5.heap.size,0,none⟩))
    clear eA
    go_upto_region 15 with (refine bL (k:=17) (by decide) BW (n:=0) (m:=ps.length) (B:=w.heap.size+1+1+1) HOE.out rfl HRS.out (by rw [kM.cells_len];rfl) HON.out XA.out (by have:=HL.out;omega) (by have:=HL.out;unfold maxLen;omega) Z7.out.sz rfl rfl rfl rfl ?_;intro A8 n8 c8 w8 hn8 o8 x8 g8)
    have HO8:=ZH (show aJ w8 (w.heap.size+1+1+1) 80 17 (.slice A8 n8 c8) (kM.cells ps) from o8)
    have HN8:=ZH (show n8=S.ms.length by rw [hn8.out,HPM.out.2,YR])
    have Z8:=ZH (Z7.out.below x8)
    clear o8 x8 g8 hn8 k3 k4 kl kl4 Z6 Z7 HOE HRS XA
    by_cases hn8:(S.ms.length:Int)=(n8:Int)
    case neg=>exact absurd (by rw [HN8.out]) hn8
    have hb8:((S.ms.length:Int) == (n8:Int))=true:=by simpa using hn8
    clear hn8
    have y0:=Z8.out.m.c0
    have y1:=Z8.out.m.c1
    have y2:=Z8.out.m.c2
    have y3:=Z8.out.m.c3
    have y4:=Z8.out.m.c4
    have y5:=Z8.out.m.c5
    have y6:=Z8.out.m.c6
    have y7:=Z8.out.m.c7
    have y8:=Z8.out.m.c8
    have y9:=Z8.out.m.c9
    have y10:=Z8.out.m.c10
    have y11:=Z8.out.m.c11
    have y12:=Z8.out.m.c12
    have y13:=Z8.out.m.c13
    have y14:=Z8.out.m.c14
    have y15:=Z8.out.m.c15
    have y16:=Z8.out.m.c16
    have yl:=Z8.out.m.lt
    have eB:Ext w8 (w8.alloc (.cells #[.string (aK m.st),.int .i64 m.num,.int .i64 m.day,Value.slice A m.roots.length cq,.string (aK m.sg.st),.int .i64 m.sg.kind,.int .i64 m.sg.num,.int .i64 m.sg.iss,.int .i64 m.sg.own,.int .i64 m.sg.key,.int .i64 m.sg.fr,.int .i64 m.sg.un,.int .i64 m.sg.to,.int .i64 m.sg.e,.int .i64 m.sg.s,.int .i64 m.e,.int .i64 m.s] 80)):=(Below.refl _ _).alloc (YF _) _
    have HLM:=ZH (litM w8 m (Value.slice A m.roots.length cq))
    have HO9:=ZH (HO8.out.ext eB)
    have Z9:=ZH (Z8.out.tr eB)
    have XB:=ZH (Below.refl (w.heap.size+1+1+1) (w8.alloc (.cells #[.string (aK m.st),.int .i64 m.num,.int .i64 m.day,Value.slice A m.roots.length cq,.string (aK m.sg.st),.int .i64 m.sg.kind,.int .i64 m.sg.num,.int .i64 m.sg.iss,.int .i64 m.sg.own,.int .i64 m.sg.key,.int .i64 m.sg.fr,.int .i64 m.sg.un,.int .i64 m.sg.to,.int .i64 m.sg.e,.int .i64 m.sg.s,.int .i64 m.e,.int .i64 m.s] 80)))
    unfold aP at HLM
    clear eB
    go_upto_region 17 with (refine bL (k:=17) (by decide) BW (n:=n8) (m:=1) (B:=w.heap.size+1+1+1) HO9.out (by rw [kM.cells_len,HN8.out,HPM.out.2];rfl) HLM.out (by rfl) (kM.one m (Value.slice A m.roots.length cq) rfl) XB.out (by have:=HN8.out;omega) (by have:=HN8.out;unfold maxLen;omega) Z9.out.sz rfl rfl rfl rfl ?_;intro A10 n10 c10 w10 hn10 o10 x10 g10)
    have o11:aJ w10 (w.heap.size+1+1+1) 80 17 (.slice A10 n10 c10) (kM.cells (ps++[(m,(Value.slice A m.roots.length cq))])):=by
     rw [<- kM.cells_snoc]
     exact o10
    have HN10:=ZH (show n10=S.ms.length+1 by rw [hn10.out,HN8.out])
    have Z10:=ZH (Z9.out.below x10)
    clear o10 x10 g10 hn10 hb8 y0 y1 y2 y3 y4 y5 y6 y7 y8 y9 y10 y11 y12 y13 y14 y15 y16 yl Z8 Z9 HO8 HO9 HLM
    obtain ⟨g,rfl,hBg,hth,hnn,hnc,hcm,o12⟩:=aJ.setRowK (K:=kM) (a:=m) (u:=(Value.slice A m.roots.length cq)) o11 (show S.ms.length<(ps++[(m,(Value.slice A m.roots.length cq))]).length by rw [YJ,HPM.out.2];exact Nat.lt_succ_self _)
    have HTH:=ZH (show w10.there g (S.ms.length*17) 17 from hth)
    have HO12:=ZH (show aJ (w10.setCells g (S.ms.length*17) (aP m (Value.slice A m.roots.length cq))) (w.heap.size+1+1+1) 80 17 (.slice (some ⟨g,0,none⟩) n10 c10) (kM.cells ((ps++[(m,(Value.slice A m.roots.length cq))]).set S.ms.length (m,(Value.slice A m.roots.length cq)))) from o12)
    have HBG:=ZH hBg
    unfold maxLen at hcm
    have hix:S.ms.length<n10:=by have:=HN10.out;omega
    have wi2:IntKind.i64.wrap (((S.ms.length:Int)))=((S.ms.length:Int)):=IntWalk.i64_in _ (by omega)
    have zi2:(0:Int)<=((S.ms.length:Int)):=by omega
    have li2:((S.ms.length:Int))<(n10:Int):=by omega
    have ti2:(((S.ms.length:Int))).toNat=S.ms.length:=by omega
    have HR:=ZH Z10.out.m.row
    clear o11 o12 hth hnn hBg
    go_step
    go_step
    go_step
    go_step
    go_step
    go_step
    go_step
    refine wpList_load_row rfl 80 _ rfl (w.heap.size+1) rfl 80 (aP m (Value.slice A m.roots.length cq)).toArray (0,0) _ HR.out Tryz.underlying80 rfl cP ?_
    go_step
    go_step
    go_step
    refine fD rfl 80 _ _ rfl rfl g (S.ms.length*17) (aP m (Value.slice A m.roots.length cq)) rfl rfl HTH.out cP (nE m (Value.slice A m.roots.length cq) rfl) ?_
    have bx:Below (w.heap.size+1+1+1) w10 (w10.setCells g (S.ms.length*17) (aP m (Value.slice A m.roots.length cq))):=(Below.refl _ _).grown (Gb.setCellsU g (aP m (Value.slice A m.roots.length cq)) (S.ms.length*17) w10) Z10.out.sz (fun r hr=>by injection hr with hr;have:=HBG.out;omega)
    have Z12:=ZH (Z10.out.below bx)
    clear bx HTH HR Z10
    generalize w10.setCells g (S.ms.length*17) (aP m (Value.slice A m.roots.length cq))=w12 at *
    have Z13:=ZH (Z12.out.put (some ⟨g,0,none⟩,n10,c10))
    have HO13:=ZH (HO12.out.grown (Gb.set w.heap.size 2 w12 (.slice (some ⟨g,0,none⟩) n10 c10)) (.inr (fun q=>by have:=aZ HO12.out _ q;omega)))
    have k3:w12.cell? ⟨w.heap.size,2,none⟩=some (.slice sA3 S.ms.length sc3):=by rw [cell_of_row _ _ 2 _ _ _ Z12.out.s];rfl
    have kl:=aA Z12.out.s
    have kf:w12.frozen? ⟨w.heap.size,2,none⟩=false:=by simp [World.frozen?,Z12.out.s]
    go_upto_region 19 with fail
    clear k3 kl kf
    generalize w12.setCell ⟨w.heap.size,2,none⟩ (.slice (some ⟨g,0,none⟩) n10 c10)=w13 at *
    have HO:=ZH Z13.out.s
    have HZ:=ZH Z13.out.z
    have H1:=ZH (bT s0 s1 (some ⟨g,0,none⟩,n10,c10) s3 s4)
    go_wp2_with (first | (refine wpList_load_row rfl 75 _ rfl w.heap.size rfl 75 (aM s0 s1 (some ⟨g,0,none⟩,n10,c10) s3 s4) (0,0) _ HO.out Tryz.underlying75 rfl aN ?_) | (refine aL rfl 75 _ _ rfl rfl (w.heap.size+1+1) (aM s0 s1 (some ⟨g,0,none⟩,n10,c10) s3 s4) rfl rfl 75 #[.slice none 0 0,.slice none 0 0,.slice none 0 0,.slice none 0 0,.slice none 0 0] HZ.out aN rfl H1.out ?_))
    have HY:=ZH (aX (cells:=aM s0 s1 (some ⟨g,0,none⟩,n10,c10) s3 s4) HZ.out)
    refine bodyPost_ret (v:=.tuple #[.agg (aM s0 s1 (some ⟨g,0,none⟩,n10,c10) s3 s4),.int .i64 0]) ?_ rfl ⟨(some ⟨g,0,none⟩,n10,c10),by rw [HA.out];rfl,aS Z13.out.ext (by omega) _,.inr ⟨(ps++[(m,(Value.slice A m.roots.length cq))]).set S.ms.length (m,(Value.slice A m.roots.length cq)),(HO13.out.setR (fun q=>by have:=aZ HO13.out _ q;omega)).mono (by omega),by rw [HA.out,<- HPM.out.2,qW,List.map_append,HPM.out.1];rfl,fun p hp=>by rw [<- HPM.out.2,qW] at hp;exact (List.mem_append.1 hp).imp id (fun q=>List.mem_singleton.1 q)⟩⟩
    simp [results,Tryz.results51,asAddr,run_loadVar_row _ (w.heap.size+1+1) 75 75 (aM s0 s1 (some ⟨g,0,none⟩,n10,c10) s3 s4) (0,0) _ HY.out Tryz.underlying75 rfl aN]
  | some i =>
    obtain ⟨hlow,hil⟩:=zV hf
    rw [hlow]
    rw [hf] at HBR
    clear hf HQ hlow
    obtain ⟨t,hq⟩:∃ t,S.ms[i]?=some t:=⟨_,YL hil⟩
    have HG:=ZH (show S.ms.getD i fO=t by rw [List.getD_eq_getElem?_getD,hq];rfl)
    obtain ⟨b,o,rfl,hbl,u,hcell,hu⟩:=HEL.out i t hq
    have hn1:w.cell? ⟨b,o+i*17+1,none⟩=some (.int .i64 t.num):=by
     have:=hcell 1 _ rfl
     rwa [<- YM] at this
    have HN1:=ZH (And.intro hbl hn1)
    clear hcell hu hq hn1 hbl
    have wi3:IntKind.i64.wrap ((i:Int))=(i:Int):=IntWalk.i64_in _ (by omega)
    have zi3:(0:Int)<=(i:Int):=by omega
    have li3:(i:Int)<(S.ms.length:Int):=by omega
    have ti3:((i:Int)).toNat=i:=by omega
    go_upto_region 10 with fail
    refine Gd.aI 16 (by kernel_rfl) (by kernel_rfl) ?_
    simp only [YT,YQ,YU,YV]
    intro w1 hw1
    have LL:∀ m1:Lt w1,Ext wr m1.1:=fun m1=>hw1.tr m1.2
    have k3:∀ m1:Lt w1,m1.1.cell? ⟨w.heap.size,2,none⟩=some (.slice (some ⟨b,o,none⟩) S.ms.length sc3):=fun m1=>by rw [cell_of_row _ _ 2 _ _ _ (Z4.out.tr (LL m1)).s];rfl
    have k1:∀ m1:Lt w1,m1.1.cell? ⟨b,o+i*17+1,none⟩=some (.int .i64 t.num):=fun m1=>((Z4.out.tr (LL m1)).ext.cell (p:=⟨b,o+i*17+1,none⟩) HN1.out.1).trans HN1.out.2
    have kr:∀ m1:Lt w1,m1.1.cell? ⟨w.heap.size+1,1,none⟩=some (.int .i64 m.num):=fun m1=>(Z4.out.tr (LL m1)).m.c1
    have kl:∀ m1:Lt w1,w.heap.size+1<m1.1.heap.size:=fun m1=>(Z4.out.tr (LL m1)).m.lt
    have kl0:∀ m1:Lt w1,w.heap.size<m1.1.heap.size:=fun m1=>Nat.lt_of_succ_lt (kl m1)
    have kb:∀ m1:Lt w1,b<m1.1.heap.size:=fun m1=>YX HN1.out.1 (Z4.out.tr (LL m1)).ext.size
    repeat (first | (refine Gd.dJ (by exact ⟨_,rfl,rfl,rfl⟩) rfl rfl ?_;simp only [Act.put,YG,YI,YH]) | (refine Gd.aC rfl fun K hK=>?_;go_big_quiet_op;refine hK _ ?_;clear hK K))
    refine Gd.cQ (fun m1=>?_)
    have Z5:=ZH (Z4.out.tr (LL m1))
    clear hw1 LL k3 k1 kr kl kl0 kb Z4
    generalize m1.1=w5 at *
    show wpList _ _ _ _ _ _
    by_cases d3:m.num<=t.num
    case pos =>
     have HA:=ZH (show ac=(S,67) by rw [HBR.out];show (if m.num<=(S.ms.getD i fO).num then _ else _)=_;rw [HG.out];exact if_pos d3)
     go_upto_region 11 with fail
     clear d3
     have Z6:=Z5
     have HO:=ZH Z6.out.s
     have HZ:=ZH Z6.out.z
     have H1:=ZH (bT s0 s1 (some ⟨b,o,none⟩,S.ms.length,sc3) s3 s4)
     go_wp2_with (first | (refine wpList_load_row rfl 75 _ rfl w.heap.size rfl 75 (aM s0 s1 (some ⟨b,o,none⟩,S.ms.length,sc3) s3 s4) (0,0) _ HO.out Tryz.underlying75 rfl aN ?_) | (refine aL rfl 75 _ _ rfl rfl (w.heap.size+1+1) (aM s0 s1 (some ⟨b,o,none⟩,S.ms.length,sc3) s3 s4) rfl rfl 75 #[.slice none 0 0,.slice none 0 0,.slice none 0 0,.slice none 0 0,.slice none 0 0] HZ.out aN rfl H1.out ?_))
     have HY:=ZH (aX (cells:=aM s0 s1 (some ⟨b,o,none⟩,S.ms.length,sc3) s3 s4) HZ.out)
     refine bodyPost_ret (v:=.tuple #[.agg (aM s0 s1 (some ⟨b,o,none⟩,S.ms.length,sc3) s3 s4),.int .i64 67]) ?_ rfl ⟨_,by rw [HA.out];rfl,aS Z6.out.ext (by omega) _,.inl ⟨rfl,by rw [HA.out]⟩⟩
     simp [results,Tryz.results51,asAddr,run_loadVar_row _ (w.heap.size+1+1) 75 75 (aM s0 s1 (some ⟨b,o,none⟩,S.ms.length,sc3) s3 s4) (0,0) _ HY.out Tryz.underlying75 rfl aN]
    have HA:=ZH (show ac=(⟨S.roots,S.pool,S.ms.set i m,S.rs,S.ds⟩,0) by rw [HBR.out];show (if m.num<=(S.ms.getD i fO).num then _ else _)=_;rw [HG.out];exact if_neg d3)
    have hne:((i:Int) == (S.ms.length:Int))=false:=by simp;omega
    go_upto_region 12 with fail
    have k3:w5.cell? ⟨w.heap.size,2,none⟩=some (.slice (some ⟨b,o,none⟩) S.ms.length sc3):=by rw [cell_of_row _ _ 2 _ _ _ Z5.out.s];rfl
    have kl:=aA Z5.out.s
    go_upto_region 14 with fail
    have Z6:=Z5
    clear k3 kl Z5
    try clear hd
    try clear d3
    clear hne
    have k3:w5.cell? ⟨w.heap.size,2,none⟩=some (.slice (some ⟨b,o,none⟩) S.ms.length sc3):=by rw [cell_of_row _ _ 2 _ _ _ Z6.out.s];rfl
    have kl:=aA Z6.out.s
    have eA:Ext w5 (w5.alloc (.cells #[] 80)):=(Below.refl _ _).alloc (YF _) _
    have k4:=(eA.cell (p:=⟨w.heap.size,2,none⟩) kl).trans k3
    have kl4:=YX kl eA.size
    have Z7:=ZH (Z6.out.tr eA)
    have HRS:=ZH (RdK.ext H2.out Z7.out.ext)
    have XA:=ZH (Below.refl (w.heap.size+1+1+1) (w5.alloc (.cells #[] 80)))
    have HOE:=ZH (aJ.empty (w5.alloc (.cells #[] 80)) (w.heap.size+1+1+1) 80 17 (some ⟨w5.heap.size,0,none⟩))
    clear eA
    go_upto_region 15 with (refine bL (k:=17) (by decide) BW (n:=0) (m:=ps.length) (B:=w.heap.size+1+1+1) HOE.out rfl HRS.out (by rw [kM.cells_len];rfl) HON.out XA.out (by have:=HL.out;omega) (by have:=HL.out;unfold maxLen;omega) Z7.out.sz rfl rfl rfl rfl ?_;intro A8 n8 c8 w8 hn8 o8 x8 g8)
    have HO8:=ZH (show aJ w8 (w.heap.size+1+1+1) 80 17 (.slice A8 n8 c8) (kM.cells ps) from o8)
    have HN8:=ZH (show n8=S.ms.length by rw [hn8.out,HPM.out.2,YR])
    have Z8:=ZH (Z7.out.below x8)
    clear o8 x8 g8 hn8 k3 k4 kl kl4 Z6 Z7 HOE HRS XA
    have hb8:((i:Int) == (n8:Int))=false:=by have:=HN8.out;simp;omega
    have o11:=HO8.out
    have Z10:=Z8
    have HN10:=HN8
    go_upto_region 17 with fail
    obtain ⟨g,rfl,hBg,hth,hnn,hnc,hcm,o12⟩:=aJ.setRowK (K:=kM) (a:=m) (u:=(Value.slice A m.roots.length cq)) o11 (show i<(ps).length by rw [HPM.out.2];exact hil)
    have HTH:=ZH (show w8.there g (i*17) 17 from hth)
    have HO12:=ZH (show aJ (w8.setCells g (i*17) (aP m (Value.slice A m.roots.length cq))) (w.heap.size+1+1+1) 80 17 (.slice (some ⟨g,0,none⟩) n8 c8) (kM.cells (ps.set i (m,(Value.slice A m.roots.length cq)))) from o12)
    have HBG:=ZH hBg
    unfold maxLen at hcm
    have hix:i<n8:=by have:=HN10.out;omega
    have wi4:IntKind.i64.wrap (((i:Int)))=((i:Int)):=IntWalk.i64_in _ (by omega)
    have zi4:(0:Int)<=((i:Int)):=by omega
    have li4:((i:Int))<(n8:Int):=by omega
    have ti4:(((i:Int))).toNat=i:=by omega
    have HR:=ZH Z10.out.m.row
    clear o11 o12 hth hnn hBg
    go_step
    go_step
    go_step
    go_step
    go_step
    go_step
    go_step
    refine wpList_load_row rfl 80 _ rfl (w.heap.size+1) rfl 80 (aP m (Value.slice A m.roots.length cq)).toArray (0,0) _ HR.out Tryz.underlying80 rfl cP ?_
    go_step
    go_step
    go_step
    refine fD rfl 80 _ _ rfl rfl g (i*17) (aP m (Value.slice A m.roots.length cq)) rfl rfl HTH.out cP (nE m (Value.slice A m.roots.length cq) rfl) ?_
    have bx:Below (w.heap.size+1+1+1) w8 (w8.setCells g (i*17) (aP m (Value.slice A m.roots.length cq))):=(Below.refl _ _).grown (Gb.setCellsU g (aP m (Value.slice A m.roots.length cq)) (i*17) w8) Z10.out.sz (fun r hr=>by injection hr with hr;have:=HBG.out;omega)
    have Z12:=ZH (Z10.out.below bx)
    clear bx HTH HR Z10
    generalize w8.setCells g (i*17) (aP m (Value.slice A m.roots.length cq))=w12 at *
    have Z13:=ZH (Z12.out.put (some ⟨g,0,none⟩,n8,c8))
    have HO13:=ZH (HO12.out.grown (Gb.set w.heap.size 2 w12 (.slice (some ⟨g,0,none⟩) n8 c8)) (.inr (fun q=>by have:=aZ HO12.out _ q;omega)))
    have k3:w12.cell? ⟨w.heap.size,2,none⟩=some (.slice (some ⟨b,o,none⟩) S.ms.length sc3):=by rw [cell_of_row _ _ 2 _ _ _ Z12.out.s];rfl
    have kl:=aA Z12.out.s
    have kf:w12.frozen? ⟨w.heap.size,2,none⟩=false:=by simp [World.frozen?,Z12.out.s]
    go_upto_region 19 with fail
    clear k3 kl kf
    generalize w12.setCell ⟨w.heap.size,2,none⟩ (.slice (some ⟨g,0,none⟩) n8 c8)=w13 at *
    have HO:=ZH Z13.out.s
    have HZ:=ZH Z13.out.z
    have H1:=ZH (bT s0 s1 (some ⟨g,0,none⟩,n8,c8) s3 s4)
    go_wp2_with (first | (refine wpList_load_row rfl 75 _ rfl w.heap.size rfl 75 (aM s0 s1 (some ⟨g,0,none⟩,n8,c8) s3 s4) (0,0) _ HO.out Tryz.underlying75 rfl aN ?_) | (refine aL rfl 75 _ _ rfl rfl (w.heap.size+1+1) (aM s0 s1 (some ⟨g,0,none⟩,n8,c8) s3 s4) rfl rfl 75 #[.slice none 0 0,.slice none 0 0,.slice none 0 0,.slice none 0 0,.slice none 0 0] HZ.out aN rfl H1.out ?_))
    have HY:=ZH (aX (cells:=aM s0 s1 (some ⟨g,0,none⟩,n8,c8) s3 s4) HZ.out)
    refine bodyPost_ret (v:=.tuple #[.agg (aM s0 s1 (some ⟨g,0,none⟩,n8,c8) s3 s4),.int .i64 0]) ?_ rfl ⟨(some ⟨g,0,none⟩,n8,c8),by rw [HA.out];rfl,aS Z13.out.ext (by omega) _,.inr ⟨ps.set i (m,(Value.slice A m.roots.length cq)),(HO13.out.setR (fun q=>by have:=aZ HO13.out _ q;omega)).mono (by omega),by rw [HA.out,kL,HPM.out.1],fun p hp=>List.mem_or_eq_of_mem_set hp⟩⟩
    simp [results,Tryz.results51,asAddr,run_loadVar_row _ (w.heap.size+1+1) 75 75 (aM s0 s1 (some ⟨g,0,none⟩,n8,c8) s3 s4) (0,0) _ HY.out Tryz.underlying75 rfl aN]
end Go.Proofs.YtkjplpmogfmhkaaGreatDoor
