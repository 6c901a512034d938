/- Parts Jw Jz Af Uj Mi Aa Mj Uo Mn of the proof. -/
import Derived.Test.YtkjplpmogfmhkaaGreatDoorLbd
import Derived.Test.YtkjplpmogfmhkaaGreatDoorLbb
import Derived.Deep.MidRow
import Derived.Test.YtkjplpmogfmhkaaGreatDoorLbe
import Derived.Deep.CutRange
import Derived.Test.YtkjplpmogfmhkaaGreatDoorLay
import Derived.Test.YtkjplpmogfmhkaaGreatDoorLbf
import Derived.Test.YtkjplpmogfmhkaaGreatDoorLba
import Derived.Test.YtkjplpmogfmhkaaGreatDoorLaz
import Derived.BigRegion
import Derived.Deep.RegionWith
import Derived.Test.YtkjplpmogfmhkaaGreatDoorLbc
import Derived.Test.YtkjplpmogfmhkaaGreatDoorLau
namespace Go.Proofs.YtkjplpmogfmhkaaGreatDoor
open Go.RowKit
set_option linter.unusedVariables false
set_option maxRecDepth 100000
theorem oP (g:Nat):∀ (vs:List Value) (i:Nat) (w:World),w.setCells g i vs=rH w g i vs
 | [],i,w=>rfl
 | v::vs,i,w=>oP g vs (i+1) _
theorem Gb.setCells (g:Nat):∀ (vs:List Value) (i:Nat) (w:World),Gb g w (w.setCells g i vs)
 | [],i,w=>Gb.refl _ _
 | v::vs,i,w=>(Gb.set g i w v).tr (Gb.setCells g vs (i+1) _)
theorem aJ.setAt {w:World}{B n c:Nat}{A:Option Addr}{l:List NC}{i:Nat} (h:aJ w B 56 11 (.slice A n c) (aA l)) (hi:i<l.length) (x:NC) :
 ∃ g,A=some ⟨g,0,none⟩∧B≤g∧w.there g (i*11) 11∧g<w.heap.size∧c≠0∧aJ (w.setCells g (i*11) (aF x)) B 56 11 (.slice A n c) (aA (l.set i x)):=by
 obtain ⟨A',n',c',e,hn,h⟩:=h
 injection e with e1 e2 e3
 subst e1 e2 e3
 rw [bF] at hn
 obtain rfl:n=l.length:=by omega
 rcases h with ⟨h0,_⟩ | ⟨g,cur,rfl,hB,hg,hnc,hcm,hcs,ht⟩
 · omega
 · refine ⟨g,rfl,hB,fun j hj=>⟨?_,by simp [World.frozen?,hg]⟩,a9 hg,by omega,?_⟩
   · rw [cell_of_row w g _ cur _ _ hg]
     simp
     have:i*11+11≤c*11:=by have:(i+1)*11≤c*11:=Nat.mul_le_mul_right _ (by omega);omega
     omega
   · rw [oP]
     have hcc:cur.toList=aA l++cur.toList.drop (l.length*11):=by rw [← ht,List.take_append_drop]
     have h1:w.heap[g]?=some (.cells (aA l++cur.toList.drop (l.length*11)).toArray 56 (0,0)):=by rw [hg,← hcc,Array.toArray_toList]
     have h2:=rM w g h1 rfl i hi x
     have hl:(l.set i x).length=l.length:=List.length_set
     have hls:(aA (l.set i x)).length=l.length*11:=by rw [bF,hl]
     have hlc:l.length*11≤c*11:=Nat.mul_le_mul_right _ hnc
     refine ⟨_,l.length,c,rfl,hls.symm,.inr ⟨g,_,rfl,hB,h2,hnc,hcm,?_,?_⟩⟩
     · have hcl:cur.toList.length=c*11:=by rw [Array.length_toList,hcs]
       show (aA (l.set i x)++cur.toList.drop (l.length*11)).length=c*11
       rw [V5,hls,List.length_drop,hcl]
       omega
     · show (aA (l.set i x)++_).take _=_
       rw [← hls]
       exact List.take_left
theorem DL (c:NC):(aF c).toArray.all (·.oneCell')=true:=fK c
theorem gX {P:Program}{ops:Array Oper}{rest:List Oper}{o:Oper}{a:Act}{w:World}{Q:Exit→Act→World→Prop} (hgd:o.guard=none) (ty:TypeId) (x y:Operand) (ho:o.op=.store ty x y) (hd:o.dst=none)
 (b f:Nat) (cells:List Value) (hx:a.eval x=.pointer (some ⟨b,f,none⟩)) (hy:a.eval y=.agg cells.toArray)
 (ht:w.there b f cells.length) (hi:(P.info? ty).map (·.size)=some cells.length) (h1:cells.toArray.all (·.oneCell')=true)
 (h:wpList P ops Q rest a (w.setCells b f cells)):wpList P ops Q (o::rest) a w :=
 wpList_store_mid hgd ty x y ho b f cells.toArray hx hy ht hi h1 (by rw [hd];exact h)
def dcR (D b:Nat):Gr.Rl where
 rel w w':=Gb D w w'∧((∃ M,dR w D b M)→∃ M,dR w' D b M)
 refl w:=⟨Gb.refl _ _,id⟩
 tr h k:=⟨h.1.tr k.1,fun q=>k.2 (h.2 q)⟩
 ext e:=⟨Gb.of _ e,fun ⟨M,h⟩=>⟨M,h.ext e⟩⟩
theorem mZ {D b:Nat}{w:World} (n:Int) (h:∃ M,dR w D b M) (n1:1≤n) (n2:n≤4611686018427387904) :
 Calls Tryz.prog 111 #[.pointer (some ⟨D,0,none⟩),.int .i64 n] w fun e w'=>∃ v,e=.returned v∧(dcR D b).rel w w'∧∃ z:Int,v=.int .i64 z∧0≤z∧z<n:=by
 obtain ⟨M,h⟩:=h
 exact (lJ n w h n2).mono fun e w' ⟨q1,q2,q3,q4⟩=>⟨_,q1,⟨q2,fun _=>⟨_,q3⟩⟩,dv M n,rfl,(pZ M n1).1,(pZ M n1).2⟩
def GZ (n:Int):aE:=fun v _=>∃ z:Int,v=.int .i64 z∧0≤z∧z<n
def GCt:aE:=fun v _=>∃ c:NC,v=ncV c∧smN c
theorem nW (r:Gr.Rl) (n:Int):r.stable (GZ n):=fun _ _ _ _ h=>h
theorem SI {a:AU}{ds:List Int} (h:AuI a ds):smL a.roots∧smL a.links∧(ds≠[]→smN a.sg∧smN a.ls):=by
 refine ⟨fun c hc=>?_,fun c hc=>?_,fun hd=>⟨?_,?_⟩⟩
 · obtain ⟨i,hi⟩:=List.getElem?_of_mem hc
   obtain ⟨k,d,num,_,_,_,_,q⟩:=h.rt i c hi
   exact vC q.ck
 · obtain ⟨i,hi⟩:=List.getElem?_of_mem hc
   obtain ⟨k,k',d,num,_,_,_,_,_,q⟩:=h.lk i c hi
   exact vC q.ck
 · obtain ⟨k,d,num,_,_,_,_,_,q⟩:=h.sg hd
   exact vC q.ck
 · obtain ⟨k,d,num,_,_,_,_,_,q⟩:=h.ls hd
   exact vC q.ck
theorem KP (a b:NC):aA [a,b]=aF a++aF b:=by simp [aA]
theorem SJ {w:World}{g:Nat}{c d:NC} (h:w.heap[g]?=some (.cells (aF c++aF d).toArray 56 (0,0))):RdK w 11 (.slice (some ⟨g,0,none⟩) 2 2) (aA [c,d]) :=
 ⟨_,2,2,rfl,rfl,UX _,by unfold maxLen;omega,fun _=>⟨g,0,rfl,fun j u hu=>by
   rw [VB,cell_of_row w g j _ _ (0,0) h,List.getElem?_toArray,← KP]
   exact hu⟩⟩
def iH (e:TypeId):Prop:=e=56 ∨ e=3 ∨ e=80 ∨ e=103 ∨ e=121 ∨ e=177
theorem qH:iH 56:=.inl rfl
theorem NZ:iH 3:=.inr (.inl rfl)
theorem R4:iH 80:=.inr (.inr (.inl rfl))
theorem U9:iH 103:=.inr (.inr (.inr (.inl rfl)))
theorem UA:iH 121:=.inr (.inr (.inr (.inr (.inl rfl))))
theorem UB:iH 177:=.inr (.inr (.inr (.inr (.inr rfl))))
theorem R9:¬ iH 98:=by unfold iH;decide
theorem UC:¬ iH 217:=by unfold iH;decide
def Kp (w w':World):Prop:=∀ (e:TypeId) (b:Nat) (cs:Array Value) (fr:Nat × Nat),iH e→w.heap[b]?=some (.cells cs e fr)→w'.heap[b]?=some (.cells cs e fr)
section
variable {w w' w'':World}
theorem Kp.refl (w:World):Kp w w:=fun _ _ _ _ _ h=>h
theorem Kp.tr (h:Kp w w') (k:Kp w' w''):Kp w w'':=fun e b cs fr he q=>k e b cs fr he (h e b cs fr he q)
theorem Kp.ext (e:Ext w w'):Kp w w':=fun _ b _ _ _ h=>(e.block b (a9 h)).trans h
theorem Kp.gb {g T:Nat}{cs0:Array Value}{fr0:Nat × Nat} (hg:w.heap[g]?=some (.cells cs0 T fr0)) (hT:¬ iH T) (e:w.grownBy w' (some g)):Kp w w':=fun t b cs fr ht h=>by
 refine (e.block b (a9 h) (fun q=>?_)).trans h
 injection q with q
 subst q
 rw [hg] at h
 injection h with h
 injection h with _ h _
 exact hT (h ▸ ht)
theorem Kp.own {B T k:Nat}{v:Value}{xs:List Value} (o:aJ w B T k v xs) (hT:¬ iH T) (g:w.grownBy w' (aL v)):Kp w w':=fun t b cs fr ht h =>
 (g.block b (a9 h) (fun q=>o.row_blk h (fun e=>hT (e.symm ▸ ht)) q.symm)).trans h
theorem cE.kp {e k:Nat}{v:Value}{xs:List Value} (h:cE w 0 e k v xs) (he:iH e) (r:Kp w w'):cE w' 0 e k v xs:=by
 have key:∀ A n c,v=.slice A n c→0<n→∃ b o,A=some ⟨b,o,none⟩∧w'.heap[b]?=w.heap[b]?∧∃ cs fr,w'.heap[b]?=some (.cells cs e fr):=fun A n c hv hn=>by
  obtain ⟨b,o,h1,h2⟩:=h.2 A n c hv hn
  rcases h2 with h2 | ⟨cs,fr,h2⟩
  · omega
  · exact ⟨b,o,h1,(r e b cs fr he h2).trans h2.symm,cs,fr,r e b cs fr he h2⟩
 refine ⟨?_,fun A n c hv hn=>?_⟩
 · obtain ⟨A,n,c,rfl,hn,hnc,hcm,hc⟩:=h.1
   refine ⟨A,n,c,rfl,hn,hnc,hcm,fun h0=>?_⟩
   obtain ⟨b,o,rfl,hcell⟩:=hc h0
   obtain ⟨b',o',e1,e2,_⟩:=key _ n c rfl h0
   injection e1 with e1
   injection e1 with e1 e3
   subst e1 e3
   refine ⟨b,o,rfl,fun j u hu=>?_⟩
   have h1:=hcell j u hu
   unfold World.cell? at h1 ⊢
   simp only at h1 ⊢
   rw [e2]
   exact h1
 · obtain ⟨b,o,h1,_,h2⟩:=key A n c hv hn
   exact ⟨b,o,h1,.inr h2⟩
def qI {α:Type} (K:LK α) (w:World) (v:Value) (l:List α):Prop:=∃ ps:List (α × Value),ps.map Prod.fst=l∧cE w 0 K.T K.k v (K.cells ps)∧∀ p ∈ ps,cE w 0 K.E K.ek p.2 (K.inn p.1)
theorem qI.kp {α:Type}{K:LK α}{v:Value}{l:List α} (h:qI K w v l) (hT:iH K.T) (hE:iH K.E) (r:Kp w w'):qI K w' v l:=by
 obtain ⟨ps,h1,h2,h3⟩:=h
 exact ⟨ps,h1,h2.kp hT r,fun p hp=>(h3 p hp).kp hE r⟩
theorem qI.rd {α:Type}{K:LK α}{v:Value}{l:List α} (h:qI K w v l):RdX K w v l:=by
 obtain ⟨ps,h1,h2,h3⟩:=h
 exact ⟨ps,h1,h2.rd,fun p hp=>(h3 p hp).rd⟩
structure StS (w:World) (s0 s1 s2 s3 s4:SlT) (S:ST):Prop where
 r:cE w 0 56 11 (slV s0) (aA S.roots)
 p:cE w 0 56 11 (slV s1) (aA S.pool)
 m:qI kM w (slV s2) S.ms
 v:qI kR w (slV s3) S.rs
 d:qI kD w (slV s4) S.ds
theorem StS.kp {s0 s1 s2 s3 s4:SlT}{S:ST} (h:StS w s0 s1 s2 s3 s4 S) (k:Kp w w'):StS w' s0 s1 s2 s3 s4 S :=
 ⟨h.r.kp qH k,h.p.kp qH k,h.m.kp R4 qH k,h.v.kp U9 NZ k,h.d.kp UA UB k⟩
theorem StS.rd {s0 s1 s2 s3 s4:SlT}{S:ST} (h:StS w s0 s1 s2 s3 s4 S):StR w s0 s1 s2 s3 s4 S:=⟨h.r.rd,h.p.rd,h.m.rd,h.v.rd,h.d.rd⟩
theorem KQ (w:World) (e k:Nat) (A:Option Addr):cE w 0 e k (.slice A 0 0) []:=(aJ.empty w 0 e k A).safe 0
theorem rP {α:Type} (K:LK α) (w:World) (A:Option Addr):qI K w (.slice A 0 0) []:=⟨[],rfl,KQ _ _ _ _,fun p hp=>(by cases hp)⟩
def zS:SlT:=(none,0,0)
structure AuS (n:Int) (w:World) (x:AB) (a:AU) (ds:List Int):Prop where
 R:cE w 0 56 11 x.R (aA a.roots)
 L:cE w 0 56 11 x.L (aA a.links)
 S:cE w 0 3 1 x.S (bC a.secs)
 st:x.st=a.st
 sg:x.sg=a.sg
 ls:x.ls=a.ls
 ssec:x.ssec=a.ssec
 lsec:x.lsec=a.lsec
 ai:AuI a ds
 ne:1≤ds.length∧ds.length≤4
 one:wK x
 li:1≤x.li∧x.li≤1+n
theorem AuS.kp {n:Int}{x:AB}{a:AU}{ds:List Int} (h:AuS n w x a ds) (k:Kp w w'):AuS n w' x a ds :=
 ⟨h.R.kp qH k,h.L.kp qH k,h.S.kp NZ k,h.st,h.sg,h.ls,h.ssec,h.lsec,h.ai,h.ne,h.one,h.li⟩
theorem AuS.mono {n n':Int}{x:AB}{a:AU}{ds:List Int} (h:AuS n w x a ds) (k:n≤n'):AuS n' w x a ds :=
 ⟨h.R,h.L,h.S,h.st,h.sg,h.ls,h.ssec,h.lsec,h.ai,h.ne,h.one,by have:=h.li;omega⟩
theorem AuS.more {n:Int}{x:AB}{a:AU}{ds:List Int} (h:AuS n w x a ds):AuS (n+1) w { x with li:=x.li+1 } a ds :=
 ⟨h.R,h.L,h.S,h.st,h.sg,h.ls,h.ssec,h.lsec,h.ai,h.ne,⟨h.one.R,h.one.L,h.one.S,h.one.V,h.one.D,h.one.Z⟩,by have:=h.li;show 1≤x.li+1∧x.li+1≤1+(n+1);omega⟩
theorem AbR.auS {B:Nat}{x:AB}{a:AU}{ds:List Int} (h:AbR w B x a) (hi:AuI a ds) (hn:1≤ds.length∧ds.length≤4) (hl:x.li=1) (hV:x.V=.slice none 0 0) (hD:x.D=.slice none 0 0) (hZ:x.Z=.slice none 0 0):AuS 0 w x a ds :=
 ⟨h.o1.safe 0,h.o2.safe 0,h.o3.safe 0,h.st,h.sg,h.ls,h.ssec,h.lsec,hi,hn,⟨h.o1.one,h.o2.one,h.o3.one,by rw [hV];rfl,by rw [hD];rfl,by rw [hZ];rfl⟩,by rw [hl];omega⟩
def AuL (n:Int) (w:World) (xs:List AB):Prop:=∀ x ∈ xs,∃ a ds,AuS n w x a ds
theorem AuL.kp {n:Int}{xs:List AB} (h:AuL n w xs) (k:Kp w w'):AuL n w' xs:=fun x hx=>by
 obtain ⟨a,ds,q⟩:=h x hx
 exact ⟨a,ds,q.kp k⟩
theorem AuL.mono {n n':Int}{xs:List AB} (h:AuL n w xs) (k:n≤n'):AuL n' w xs:=fun x hx=>by
 obtain ⟨a,ds,q⟩:=h x hx
 exact ⟨a,ds,q.mono k⟩
theorem AuS.sm {n:Int}{x:AB}{a:AU}{ds:List Int} (h:AuS n w x a ds):smL a.roots∧smL a.links∧smN a.sg∧smN a.ls:=by
 obtain ⟨h1,h2,h3⟩:=SI h.ai
 have h4:=h3 (fun q=>by have:=h.ne.1;rw [q] at this;exact absurd this (by decide))
 exact ⟨h1,h2,h4.1,h4.2⟩
end
def abL (x:AB):List Value:=(bU x).toList
theorem I7 (x:AB):(abL x).toArray=bU x:=Array.toArray_toList
theorem tQ (x:AB):(abL x).length=33:=rfl
theorem QK {x:AB} (h:wK x):∀ u ∈ abL x,u.oneCell'=true:=by
 have:=eR h
 rw [Array.all_eq_true_iff_forall_mem] at this
 exact fun u hu=>this u (Array.mem_toList_iff.1 hu)
def rQ (xs:List AB):List Value:=xs.flatMap abL
theorem wL (xs:List AB):(rQ xs).length=xs.length*33:=j3 abL 33 tQ xs
theorem SK:kE Tryz.prog 70 98 33 384:=by
 have h:(Tryz.prog.info? 98).map (fun i=>(i.zero,i.size,i.bytes))=some (some (.agg (bU cZ)),33,384):=by kernel_rfl
 obtain ⟨i,h1,h2,h3,h4⟩:=info_parts h
 exact ⟨i,_,Tryz.underlying70,h1,h2,h3,h4,rfl⟩
theorem aJ.setFlat {α:Type}{row:α→List Value}{T k:Nat} (hlen:∀ a,(row a).length=k) (hk:0<k) {w:World}{B n c i:Nat}{A:Option Addr}{l:List α}{a:α} (ho:aJ w B T k (.slice A n c) (l.flatMap row)) (hi:i<l.length) :
 ∃ g,A=some ⟨g,0,none⟩∧B≤g∧w.there g (i*k) k∧(∃ cs,w.heap[g]?=some (.cells cs T (0,0)))∧n=l.length∧n≤c∧c≤maxLen∧aJ (w.setCells g (i*k) (row a)) B T k (.slice A n c) ((l.set i a).flatMap row):=by
 obtain ⟨A',n',c',e,hn,hc⟩:=ho
 injection e with e1 e2 e3
 subst e1 e2 e3
 have fl:=fun l:List α=>j3 row k hlen l
 rw [fl] at hn
 obtain rfl:n=l.length:=VP hk hn
 rcases hc with ⟨h0,_⟩ | ⟨g,cur,rfl,hB,hg,hnc,hcm,hcs,ht⟩
 · omega
 have hiK:i*k+k≤c*k:=by rw [← Nat.succ_mul];exact Nat.mul_le_mul_right _ (by omega)
 refine ⟨g,rfl,hB,fun j hj=>⟨?_,by simp [World.frozen?,hg]⟩,⟨_,hg⟩,rfl,hnc,hcm,?_⟩
 · rw [cell_of_row w g _ cur _ _ hg]
   simp
   omega
 · have e:l=l.take i++[l[i]]++l.drop (i+1):=by
    rw [VF,List.singleton_append,← List.drop_eq_getElem_cons hi,List.take_append_drop]
   have e2:l.set i a=l.take i++[a]++l.drop (i+1):=by
    rw [List.set_eq_take_append_cons_drop,if_pos hi,VF]
    rfl
   have hcc:cur.toList=l.flatMap row++cur.toList.drop (l.length*k):=by rw [← ht,List.take_append_drop]
   generalize hR:cur.toList.drop (l.length*k)=R at hcc
   have hl:((l.take i).flatMap row).length=i*k:=by rw [fl,VL,Nat.min_eq_left (Nat.le_of_lt hi)]
   have h':w.heap[g]?=some (.cells ((l.take i).flatMap row++row l[i]++((l.drop (i+1)).flatMap row++R)).toArray T (0,0)):=by
    rw [hg]
    congr 2
    rw [← Array.toArray_toList (xs:=cur),hcc]
    congr 1
    conv=>lhs;rw [e,List.flatMap_append,List.flatMap_append,List.flatMap_singleton]
    simp only [VF]
   have h2:=jZ (row a) ((l.take i).flatMap row) ((l.drop (i+1)).flatMap row++R) w g (row l[i]) T (0,0) h' (by rw [hlen,hlen])
   rw [hl,← fJ] at h2
   have h3:((l.take i).flatMap row++row a++((l.drop (i+1)).flatMap row++R))=(l.set i a).flatMap row++R:=by
    rw [e2,List.flatMap_append,List.flatMap_append,List.flatMap_singleton]
    simp only [VF]
   rw [h3] at h2
   have hls:((l.set i a).flatMap row).length=l.length*k:=by rw [fl,List.length_set]
   have hRl:R.length=c*k - l.length*k:=by rw [← hR,List.length_drop,Array.length_toList,hcs]
   have hlc:l.length*k≤c*k:=Nat.mul_le_mul_right _ hnc
   refine ⟨_,l.length,c,rfl,hls.symm,.inr ⟨g,_,rfl,hB,h2,hnc,hcm,?_,?_⟩⟩
   · show ((l.set i a).flatMap row++R).length=c*k
     rw [V5,hls,hRl]
     omega
   · show ((l.set i a).flatMap row++R).take _=_
     rw [← hls]
     exact List.take_left
theorem aJ.rangeFlat {α:Type}{row:α→List Value}{T k:Nat} (hlen:∀ a,(row a).length=k) (hk:0<k) {w:World}{B n c i:Nat}{A:Option Addr}{l:List α}{a:α} (ho:aJ w B T k (.slice A n c) (l.flatMap row)) (hi:l[i]?=some a) :
 ∃ g,A=some ⟨g,0,none⟩∧B≤g∧g<w.heap.size∧n=l.length∧n≤c∧c≤maxLen∧w.rangeAt g (i*k) (row a):=by
 obtain ⟨A',n',c',e,hn,hc⟩:=ho
 injection e with e1 e2 e3
 subst e1 e2 e3
 rw [j3 row k hlen] at hn
 obtain rfl:n=l.length:=VP hk hn
 obtain ⟨hil,rfl⟩:=List.getElem?_eq_some_iff.1 hi
 rcases hc with ⟨h0,_⟩ | ⟨g,cur,rfl,hB,hg,hnc,hcm,hcs,ht⟩
 · omega
 refine ⟨g,rfl,hB,a9 hg,rfl,hnc,hcm,fun j u hu=>?_⟩
 have hj:j<k:=by have:=(List.getElem?_eq_some_iff.1 hu).1;rwa [hlen] at this
 rw [cell_of_row w g _ cur _ _ hg]
 have h1:=mS row k hlen l i hil j hj
 rw [hu,← ht,List.getElem?_take] at h1
 split at h1
 · simpa using h1
 · cases h1
theorem cW {w w':World}{g o:Nat}{cs:List Value} (h:w.rangeAt g o cs) (hg:g<w.heap.size) (e:Ext w w'):w'.rangeAt g o cs:=fun j v hv=>(e.cell (p:=⟨g,o+j,none⟩) hg).trans (h j v hv)
theorem KS (W:World) (x:AB):(Instr.buildSlice 70 1 [(0,abV x)].toArray).run Tryz.prog W=.ok (.slice (some ⟨W.heap.size,0,none⟩) 1 1) (W.alloc (.cells (bU x) 98)):=by
 unfold abV bU
 go_simp
theorem O0 {w:World}{g T k:Nat}{xs:List Value} (h:w.heap[g]?=some (.cells xs.toArray T (0,0))) (n:Nat) (hn:n*k=xs.length) (hm:n≤maxLen):RdK w k (.slice (some ⟨g,0,none⟩) n n) xs :=
 ⟨_,n,n,rfl,hn,UX _,hm,fun _=>⟨g,0,rfl,fun j u hu=>by
   rw [VB,cell_of_row w g j _ _ (0,0) h,List.getElem?_toArray]
   exact hu⟩⟩
end Go.Proofs.YtkjplpmogfmhkaaGreatDoor
namespace Go.Proofs.YtkjplpmogfmhkaaGreatDoor
open Go.RowKit
open Go.Proofs.YtkjplpmogfmhkaaGreatDoor.Gd (cN mF)
set_option linter.unusedVariables false
set_option maxRecDepth 100000
section
variable {w wr wx:World}{s0 s1 s2 s3 s4 t0 t1 t2 t3 t4:SlT}{S S':ST}{r:RV}{v:Value}{g:Nat}
theorem StO.gr {B gR:Nat}{cs:Array Value} (h:StO wr B t0 t1 t2 t3 t4 S) (hg:wr.heap[gR]?=some (.cells cs 103 (0,0))) (e:wr.grownBy wx (some gR)) (o3:gZ kR wx B (slV t3) S'.rs) (h0:S'.roots=S.roots) (h1:S'.pool=S.pool) (h2:S'.ms=S.ms) (h4:S'.ds=S.ds):StO wx B t0 t1 t2 t3 t4 S' :=
 ⟨by rw [h0];exact h.o0.grown e (.inr (h.o0.row_blk hg (by decide))),by rw [h1];exact h.o1.grown e (.inr (h.o1.row_blk hg (by decide))),by rw [h2];exact h.o2.gb hg (by decide) (by decide) e,o3,by rw [h4];exact h.o4.gb hg (by decide) (by decide) e⟩
theorem fA.form {α:Type}{K:LK α}{B n c i:Nat}{A:Option Addr}{ps:List (α × Value)} (h:fA K wr B (.slice A n c) ps) (hi:i<ps.length):∃ g cur,A=some ⟨g,0,none⟩∧n=ps.length∧n≤c∧c≤maxLen∧B≤g∧wr.heap[g]?=some (.cells cur K.T (0,0)):=by
 obtain ⟨A',n',c',e,hn,hc⟩:=h.1
 injection e with e1 e2 e3
 subst e1 e2 e3
 rw [K.cells_len] at hn
 obtain rfl:n=ps.length:=VP K.pos hn
 rcases hc with ⟨h0,_⟩ | ⟨g,cur,rfl,hB,hg,hnc,hcm,_,_⟩
 · omega
 · exact ⟨g,cur,rfl,rfl,hnc,hcm,hB,hg⟩
theorem StO.gst {B gS:Nat}{cs:Array Value} (h:StO wr B t0 t1 t2 t3 t4 S) (hg:wr.heap[gS]?=some (.cells cs 75 (0,0))) (e:wr.grownBy wx (some gS)):StO wx B t0 t1 t2 t3 t4 S :=
 ⟨h.o0.grown e (.inr (h.o0.row_blk hg (by decide))),h.o1.grown e (.inr (h.o1.row_blk hg (by decide))),h.o2.gb hg (by decide) (by decide) e,h.o3.gb hg (by decide) (by decide) e,h.o4.gb hg (by decide) (by decide) e⟩
end
theorem nB {α β:Type}:∀ (ps:List (α × β)) (i:Nat) (a:α) (b:β),(ps.set i (a,b)).map Prod.fst=(ps.map Prod.fst).set i a
 | [],_,_,_=>rfl
 | p::ps,0,a,b=>rfl
 | p::ps,i+1,a,b=>congrArg (p.1::·) (nB ps i a b)
def UD (w:World) (S:ST) (k:Int) (e:Ending) (w':World):Prop:=∃ t0 t1 t2 t3 t4:SlT,e=.returned (.tuple #[cH t0 t1 t2 t3 t4,.int .i64 k])∧StR w' t0 t1 t2 t3 t4 S∧Ext w w'
noncomputable def dP (S:ST) (m:MA) (day:Int):ST × Int :=
 if lX S.roots S.pool m day≠0 then (S,lX S.roots S.pool m day) else
 match S.ms.findIdx? (fun t=>decide (t.st=m.st)) with
 | some i=>if m.num≤(S.ms.getD i bQ).num then (S,67) else (⟨S.roots,S.pool,S.ms.set i m,S.rs,S.ds⟩,0)
 | none=>if 16≤S.ms.length then (S,72) else (⟨S.roots,S.pool,S.ms++[m],S.rs,S.ds⟩,0)
structure AcM (w wr:World) (s0 s1 s2 s3 s4 t0 t1 t2 t3 t4:SlT) (S:ST) (r:MA) (v:Value) (g:Nat):Prop where
 ext:Ext w wr
 s:wr.heap[w.heap.size]?=some (.cells (bD s0 s1 s2 s3 s4) 75 (0,0))
 r:aX wr (w.heap.size+1) r v
 z:wr.heap[w.heap.size+1+1]?=some (.cells #[.slice none 0 0,.slice none 0 0,.slice none 0 0,.slice none 0 0,.slice none 0 0] 75 (0,0))
 o:wr.heap[g]?=some (.cells (bD t0 t1 t2 t3 t4) 75 (0,0))
 own:StO wr (w.heap.size+1+1+1) t0 t1 t2 t3 t4 S
 hg:w.heap.size+1+1+1≤g
section
variable {w wr wx:World}{s0 s1 s2 s3 s4 t0 t1 t2 t3 t4:SlT}{S S':ST}{r:MA}{v:Value}{g:Nat}
theorem AcM.tr (h:AcM w wr s0 s1 s2 s3 s4 t0 t1 t2 t3 t4 S r v g) (e:Ext wr wx):AcM w wx s0 s1 s2 s3 s4 t0 t1 t2 t3 t4 S r v g :=
 ⟨h.ext.tr e,(e.block _ (a9 h.s)).trans h.s,h.r.ext e,(e.block _ (a9 h.z)).trans h.z,(e.block _ (a9 h.o)).trans h.o,h.own.ext e,h.hg⟩
theorem AcM.fin (h:AcM w wr s0 s1 s2 s3 s4 t0 t1 t2 t3 t4 S r v g) (cs:Array Value):Ext w (wr.setRow (w.heap.size+1+1) cs)∧StR (wr.setRow (w.heap.size+1+1) cs) t0 t1 t2 t3 t4 S :=
 ⟨aQ h.ext (by omega) _,(h.own.gbB (g:=w.heap.size+1+1) (by omega) (Gb.setRow _ _ _)).rd⟩
theorem StO.grM {B gR:Nat}{cs:Array Value} (h:StO wr B t0 t1 t2 t3 t4 S) (hg:wr.heap[gR]?=some (.cells cs 80 (0,0))) (e:wr.grownBy wx (some gR)) (o2:gZ kM wx B (slV t2) S'.ms) (h0:S'.roots=S.roots) (h1:S'.pool=S.pool) (h3:S'.rs=S.rs) (h4:S'.ds=S.ds):StO wx B t0 t1 t2 t3 t4 S' :=
 ⟨by rw [h0];exact h.o0.grown e (.inr (h.o0.row_blk hg (by decide))),by rw [h1];exact h.o1.grown e (.inr (h.o1.row_blk hg (by decide))),o2,by rw [h3];exact h.o3.gb hg (by decide) (by decide) e,by rw [h4];exact h.o4.gb hg (by decide) (by decide) e⟩
theorem StO.gr2M {B B2:Nat}{v2:Value}{x2:List Value}{t2':SlT} (h:StO wr B t0 t1 t2 t3 t4 S) (o:aJ wr B2 80 17 v2 x2) (e:wr.grownBy wx (aL v2)) (o2:gZ kM wx B (slV t2') S'.ms) (h0:S'.roots=S.roots) (h1:S'.pool=S.pool) (h3:S'.rs=S.rs) (h4:S'.ds=S.ds):StO wx B t0 t1 t2' t3 t4 S' :=
 ⟨by rw [h0];exact h.o0.grown e (o.row_ne h.o0 (by decide)),by rw [h1];exact h.o1.grown e (o.row_ne h.o1 (by decide)),o2,by rw [h3];exact h.o3.grow o (by decide) (by decide) e,by rw [h4];exact h.o4.grow o (by decide) (by decide) e⟩
theorem AcM.app {ps:List (MA × Value)}{u:Value}{A8:Option Addr}{n8 c8:Nat}{w8:World} (h:AcM w wr s0 s1 s2 s3 s4 t0 t1 t2 t3 t4 S r v g) (hOP:fA kM wr (w.heap.size+1+1+1) (slV t2) ps) (hps:ps.map Prod.fst=S.ms) (hi:aJ w8 (w.heap.size+1+1+1) 56 11 u (aA r.roots))
 (o8:aJ w8 (w.heap.size+1+1+1) 80 17 (.slice A8 n8 c8) (kM.cells ps++aB r u)) (g8:wr.grownBy w8 (aL (slV t2))) :
 w8.cell? ⟨g,2,none⟩=some (.slice t2.1 t2.2.1 t2.2.2)∧g<w8.heap.size∧w8.frozen? ⟨g,2,none⟩=false∧AcM w (w8.setCell ⟨g,2,none⟩ (.slice A8 n8 c8)) s0 s1 s2 s3 s4 t0 t1 (A8,n8,c8) t3 t4 ⟨S.roots,S.pool,S.ms++[r],S.rs,S.ds⟩ r v g:=by
 have low:∀ k,k<w.heap.size+1+1+1→k<wr.heap.size→w8.heap[k]?=wr.heap[k]?:=fun k hk hl=>g8.block k hl (fun q=>by have:=aT hOP.1 k q.symm;omega)
 have ho:w8.heap[g]?=some (.cells (bD t0 t1 t2 t3 t4) 75 (0,0)):=(g8.block g (a9 h.o) (fun q=>hOP.1.row_blk h.o (by decide) q.symm)).trans h.o
 have hG:=h.hg
 have hlt:=a9 ho
 have hx:Below (w.heap.size+1+1+1) wr w8:=⟨g8.os,g8.tape,g8.output,g8.size,fun k hk=>g8.block k (VG hk (V9 hG (Nat.le_of_lt (a9 h.o)))) (fun q=>by have:=aT hOP.1 k q.symm;omega)⟩
 have keep:∀ k,k≠g→(w8.setCell ⟨g,2,none⟩ (.slice A8 n8 c8)).heap[k]?=w8.heap[k]?:=fun k hk=>aW hk
 have own8:StO w8 (w.heap.size+1+1+1) t0 t1 (A8,n8,c8) t3 t4 ⟨S.roots,S.pool,S.ms++[r],S.rs,S.ds⟩:=h.own.gr2M (t2':=(A8,n8,c8)) (S':=⟨S.roots,S.pool,S.ms++[r],S.rs,S.ds⟩) hOP.1 g8 ⟨ps++[(r,u)],by rw [List.map_append,hps];rfl,by rw [← kM.cells_snoc];exact o8,fun p hp=>(List.mem_append.1 hp).elim (fun q=>(hOP.2 p q).grown g8 (hOP.1.row_ne (hOP.2 p q) kM.ne.symm)) (fun q=>by rw [List.mem_singleton.1 q];exact hi)⟩ rfl rfl rfl rfl
 refine ⟨by rw [cell_of_row _ _ 2 _ _ _ ho];rfl,hlt,by simp [World.frozen?,ho],?_⟩
 refine ⟨(h.ext.trans (hx.mono (by omega))).setCell (p:=⟨g,2,none⟩) (by show w.heap.size≤g;omega) _,(keep _ (by omega)).trans ((low _ (by omega) (a9 h.s)).trans h.s),(keep _ (by omega)).trans ((low _ (by omega) h.r.lt).trans h.r),(keep _ (by omega)).trans ((low _ (by omega) (a9 h.z)).trans h.z),?_,own8.gst ho (Gb.set g 2 w8 _),hG⟩
 have h9:=aG ho 2 (.slice A8 n8 c8)
 exact h9
theorem AcM.keep {ps:List (MA × Value)} (h:AcM w wr s0 s1 s2 s3 s4 t0 t1 t2 t3 t4 S r v g) (hOP:fA kM wr (w.heap.size+1+1+1) (slV t2) ps) (g8:wr.grownBy wx (aL (slV t2))):wx.heap[g]?=some (.cells (bD t0 t1 t2 t3 t4) 75 (0,0))∧aX wx (w.heap.size+1) r v∧Ext w wx :=
 have hG:=h.hg
 have hx:Below (w.heap.size+1+1+1) wr wx:=⟨g8.os,g8.tape,g8.output,g8.size,fun k hk=>g8.block k (VG hk (V9 hG (Nat.le_of_lt (a9 h.o)))) (fun q=>by have:=aT hOP.1 k q.symm;omega)⟩
 ⟨(g8.block g (a9 h.o) (fun q=>hOP.1.row_blk h.o (by decide) q.symm)).trans h.o,(hx.block _ (by omega)).trans h.r,h.ext.trans (hx.mono (by omega))⟩
end
def UE (B:Nat) (r:MA):aE:=fun v w=>∃ A n c,v=maV r (.slice A n c)∧aJ w B 56 11 (.slice A n c) (aA r.roots)
theorem DM (B:Nat) (r:MA):bK (UE B r):=fun v w w' e ⟨A,n,c,h1,h2⟩=>⟨A,n,c,h1,h2.ext e⟩
set_option maxHeartbeats 16000000 in
theorem j6 (s0 s1 s2 s3 s4:SlT) (S:ST) (r:MA) (v:Value) (day:Int) (w:World) (hS:StR w s0 s1 s2 s3 s4 S) (hB:StB S) (hv:RdN w v r.roots) (hs:r.st.length≤maxLen) (hr:smL r.roots) (hg:smN r.sg) (hl:r.roots.length≤1000000) (E:dI w 1) :
 Calls Tryz.prog 50 #[cH s0 s1 s2 s3 s4,maV r v,.int .i64 day] w (UD w (dP S r day).1 (dP S r day).2):=by
 obtain ⟨A,n,c,rfl,hn,-⟩:=hv.at_
 subst hn
 obtain ⟨wz,hwz⟩:∃ wz,wz=((w.alloc (.cells #[.slice s0.1 s0.2.1 s0.2.2,.slice s1.1 s1.2.1 s1.2.2,.slice s2.1 s2.2.1 s2.2.2,.slice s3.1 s3.2.1 s3.2.2,.slice s4.1 s4.2.1 s4.2.2] 75)).alloc (.cells #[.string (aI r.st),.int .i64 r.num,.int .i64 r.day,.slice A r.roots.length c,.string (aI r.sg.st),.int .i64 r.sg.kind,.int .i64 r.sg.num,.int .i64 r.sg.iss,.int .i64 r.sg.own,.int .i64 r.sg.key,.int .i64 r.sg.fr,.int .i64 r.sg.un,.int .i64 r.sg.to,.int .i64 r.sg.e,.int .i64 r.sg.s,.int .i64 r.e,.int .i64 r.s] 80)).alloc (.cells #[.slice none 0 0,.slice none 0 0,.slice none 0 0,.slice none 0 0,.slice none 0 0] 75):=⟨_,rfl⟩
 have e1:Ext w (w.alloc (.cells #[.slice s0.1 s0.2.1 s0.2.2,.slice s1.1 s1.2.1 s1.2.2,.slice s2.1 s2.2.1 s2.2.2,.slice s3.1 s3.2.1 s3.2.2,.slice s4.1 s4.2.1 s4.2.2] 75)):=(Below.refl _ _).alloc (UX _) _
 have e2:Ext (w.alloc (.cells #[.slice s0.1 s0.2.1 s0.2.2,.slice s1.1 s1.2.1 s1.2.2,.slice s2.1 s2.2.1 s2.2.2,.slice s3.1 s3.2.1 s3.2.2,.slice s4.1 s4.2.1 s4.2.2] 75)) ((w.alloc (.cells #[.slice s0.1 s0.2.1 s0.2.2,.slice s1.1 s1.2.1 s1.2.2,.slice s2.1 s2.2.1 s2.2.2,.slice s3.1 s3.2.1 s3.2.2,.slice s4.1 s4.2.1 s4.2.2] 75)).alloc (.cells #[.string (aI r.st),.int .i64 r.num,.int .i64 r.day,.slice A r.roots.length c,.string (aI r.sg.st),.int .i64 r.sg.kind,.int .i64 r.sg.num,.int .i64 r.sg.iss,.int .i64 r.sg.own,.int .i64 r.sg.key,.int .i64 r.sg.fr,.int .i64 r.sg.un,.int .i64 r.sg.to,.int .i64 r.sg.e,.int .i64 r.sg.s,.int .i64 r.e,.int .i64 r.s] 80)):=(Below.refl _ _).alloc (UX _) _
 have e3:Ext ((w.alloc (.cells #[.slice s0.1 s0.2.1 s0.2.2,.slice s1.1 s1.2.1 s1.2.2,.slice s2.1 s2.2.1 s2.2.2,.slice s3.1 s3.2.1 s3.2.2,.slice s4.1 s4.2.1 s4.2.2] 75)).alloc (.cells #[.string (aI r.st),.int .i64 r.num,.int .i64 r.day,.slice A r.roots.length c,.string (aI r.sg.st),.int .i64 r.sg.kind,.int .i64 r.sg.num,.int .i64 r.sg.iss,.int .i64 r.sg.own,.int .i64 r.sg.key,.int .i64 r.sg.fr,.int .i64 r.sg.un,.int .i64 r.sg.to,.int .i64 r.sg.e,.int .i64 r.sg.s,.int .i64 r.e,.int .i64 r.s] 80)) wz:=by rw [hwz];exact (Below.refl _ _).alloc (UX _) _
 have hsz:wz.heap.size=w.heap.size+1+1+1:=by rw [hwz];simp
 have z1:wz.heap[w.heap.size]?=some (.cells (bD s0 s1 s2 s3 s4) 75 (0,0)):=((e2.tr e3).block _ (by simp)).trans (aC w _)
 have z2:aX wz (w.heap.size+1) r (.slice A r.roots.length c):=by
  have:=(aX.new (w.alloc (.cells #[.slice s0.1 s0.2.1 s0.2.2,.slice s1.1 s1.2.1 s1.2.2,.slice s2.1 s2.2.1 s2.2.2,.slice s3.1 s3.2.1 s3.2.2,.slice s4.1 s4.2.1 s4.2.2] 75)) r (.slice A r.roots.length c)).ext e3
  rwa [show (w.alloc (.cells #[.slice s0.1 s0.2.1 s0.2.2,.slice s1.1 s1.2.1 s1.2.2,.slice s2.1 s2.2.1 s2.2.2,.slice s3.1 s3.2.1 s3.2.2,.slice s4.1 s4.2.1 s4.2.2] 75)).heap.size=w.heap.size+1 by simp] at this
 have z3:wz.heap[w.heap.size+1+1]?=some (.cells #[.slice none 0 0,.slice none 0 0,.slice none 0 0,.slice none 0 0,.slice none 0 0] 75 (0,0)):=by
  have:=aC ((w.alloc (.cells #[.slice s0.1 s0.2.1 s0.2.2,.slice s1.1 s1.2.1 s1.2.2,.slice s2.1 s2.2.1 s2.2.2,.slice s3.1 s3.2.1 s3.2.2,.slice s4.1 s4.2.1 s4.2.2] 75)).alloc (.cells #[.string (aI r.st),.int .i64 r.num,.int .i64 r.day,.slice A r.roots.length c,.string (aI r.sg.st),.int .i64 r.sg.kind,.int .i64 r.sg.num,.int .i64 r.sg.iss,.int .i64 r.sg.own,.int .i64 r.sg.key,.int .i64 r.sg.fr,.int .i64 r.sg.un,.int .i64 r.sg.to,.int .i64 r.sg.e,.int .i64 r.sg.s,.int .i64 r.e,.int .i64 r.s] 80)) (.cells #[.slice none 0 0,.slice none 0 0,.slice none 0 0,.slice none 0 0,.slice none 0 0] 75)
  rw [show ((w.alloc (.cells #[.slice s0.1 s0.2.1 s0.2.2,.slice s1.1 s1.2.1 s1.2.2,.slice s2.1 s2.2.1 s2.2.2,.slice s3.1 s3.2.1 s3.2.2,.slice s4.1 s4.2.1 s4.2.2] 75)).alloc (.cells #[.string (aI r.st),.int .i64 r.num,.int .i64 r.day,.slice A r.roots.length c,.string (aI r.sg.st),.int .i64 r.sg.kind,.int .i64 r.sg.num,.int .i64 r.sg.iss,.int .i64 r.sg.own,.int .i64 r.sg.key,.int .i64 r.sg.fr,.int .i64 r.sg.un,.int .i64 r.sg.to,.int .i64 r.sg.e,.int .i64 r.sg.s,.int .i64 r.e,.int .i64 r.s] 80)).heap.size=w.heap.size+1+1 by simp] at this
  rw [hwz]
  exact this
 have EZ:=VR (e1.tr (e2.tr e3))
 have HCS:=VR (fun W (e:Ext w W)=>FR s0 s1 s2 s3 s4 S W (hS.ext e) hB)
 have HVF:=VR (fun W (e:Ext w W)=>sR s0 s1 s2 s3 s4 S.roots S.pool r (.slice A r.roots.length c) day W (RdK.ext hS.r0 e) (RdK.ext hS.r1 e) hB.r hB.p (by have:=hB.lr;have:=hB.lp;omega) (RdK.ext hv e) hr hg hs (E.below e))
 have HPL:=VR (fun (W:World) (e:Ext w W) (hc:W.cell? ⟨w.heap.size+1,0,none⟩=some (.string (aI r.st)))=>zZ (v:=slV s2) r.st (w.heap.size+1) W (hS.r2.ext e) hc)
 have HCR:=VR (fun W (e:Ext w W)=>mW r (.slice A r.roots.length c) W (RdK.ext hv e) hl)
 have HR3:=VR hS.r2
 have HS:=VR z1
 have HLS:=VR hB.ls
 obtain ⟨ac,hac⟩:∃ ac,dP S r day=ac:=⟨_,rfl⟩
 rw [hac]
 have HAC:=VR hac
 have HZ2:=VR z2
 have HZ3:=VR z3
 have HZ1:=VR z1
 clear hS hv hs hl hr hg E e1 e2 e3 z1 z2 z3 hac hB
 unfold cH maV aB
 go_enter Tryz.func50,Tryz.ntmps50
 go_upto_region 1 with fail
 rw [← hwz]
 clear hwz
 go_wp2_with (refine wpList_load_row rfl 75 _ rfl w.heap.size rfl 75 (bD s0 s1 s2 s3 s4) (0,0) _ HS.out Tryz.underlying75 rfl aY ?_)
 refine (HCS.out wz EZ.out).mono ?_
 rintro e w1 ⟨t0,t1,t2,t3,t4,rfl,own,b1⟩
 obtain ⟨wo,hwo⟩:∃ wo,wo=w1.alloc (.cells #[.slice t0.1 t0.2.1 t0.2.2,.slice t1.1 t1.2.1 t1.2.2,.slice t2.1 t2.2.1 t2.2.2,.slice t3.1 t3.2.1 t3.2.2,.slice t4.1 t4.2.1 t4.2.2] 75):=⟨_,rfl⟩
 have eo:Ext w1 wo:=by rw [hwo];exact (Below.refl _ _).alloc (UX _) _
 have ho:wo.heap[w1.heap.size]?=some (.cells (bD t0 t1 t2 t3 t4) 75 (0,0)):=by rw [hwo];exact aC w1 _
 have b9:=b1.tr eo
 obtain ⟨g,hg⟩:∃ g,w1.heap.size=g:=⟨_,rfl⟩
 have Z1:Hid (AcM w wo s0 s1 s2 s3 s4 t0 t1 t2 t3 t4 S r (.slice A r.roots.length c) g):=VR ⟨EZ.out.tr b9,(b9.block _ (a9 HZ1.out)).trans HZ1.out,HZ2.out.ext b9,(b9.block _ (a9 HZ3.out)).trans HZ3.out,by rw [← hg];exact ho,(own.ext eo).mono (by omega),by have:=b1.size;omega⟩
 clear eo ho b1 b9 own HZ1 HZ2 HZ3 HS EZ HCS hsz
 unfold cH
 go_upto_region 2 with fail
 rw [← hwo]
 try rw [hg]
 clear hwo hg
 have HS:=VR Z1.out.s
 have HR:=VR Z1.out.r.row
 go_wp2_with (first | (refine wpList_load_row rfl 75 _ rfl w.heap.size rfl 75 (bD s0 s1 s2 s3 s4) (0,0) _ HS.out Tryz.underlying75 rfl aY ?_) | (refine wpList_load_row rfl 80 _ rfl (w.heap.size+1) rfl 80 (aB r (.slice A r.roots.length c)).toArray (0,0) _ HR.out Tryz.underlying80 rfl aN ?_))
 refine (HVF.out wo Z1.out.ext).mono ?_
 rintro e w3 ⟨rfl,b3⟩
 have Z3:=VR (Z1.out.tr b3)
 clear b3 HS HR Z1 HVF
 obtain ⟨sv,hsv⟩:∃ sv,lX S.roots S.pool r day=sv:=⟨_,rfl⟩
 rw [hsv]
 have HSV:=VR hsv
 clear hsv
 by_cases d2:sv=0
 case neg =>
  have HA:=VR (show ac=(S,sv) by rw [← HAC.out];unfold dP;rw [HSV.out,if_pos d2])
  have hb:(sv != 0)=true:=by simpa using d2
  clear d2
  have HO:=VR Z3.out.o
  have HZ:=VR Z3.out.z
  have H1:=VR (eG t0 t1 t2 t3 t4)
  go_wp2_with (first | (refine wpList_load_row rfl 75 _ rfl g rfl 75 (bD t0 t1 t2 t3 t4) (0,0) _ HO.out Tryz.underlying75 rfl aY ?_) | (refine aK rfl 75 _ _ rfl rfl (w.heap.size+1+1) (bD t0 t1 t2 t3 t4) rfl rfl 75 #[.slice none 0 0,.slice none 0 0,.slice none 0 0,.slice none 0 0,.slice none 0 0] HZ.out aY rfl H1.out ?_))
  have HY:=VR (aZ (cells:=bD t0 t1 t2 t3 t4) HZ.out)
  refine bodyPost_ret (v:=.tuple #[.agg (bD t0 t1 t2 t3 t4),.int .i64 sv]) ?_ rfl ⟨t0,t1,t2,t3,t4,by rw [HA.out];rfl,by rw [HA.out];exact (Z3.out.fin _).2,(Z3.out.fin _).1⟩
  simp [results,Tryz.results50,asAddr,run_loadVar_row _ (w.heap.size+1+1) 75 75 (bD t0 t1 t2 t3 t4) (0,0) _ HY.out Tryz.underlying75 rfl aY]
 subst d2
 go_upto_region 5 with fail
 have k2:w3.cell? ⟨w.heap.size,2,none⟩=some (.slice s2.1 s2.2.1 s2.2.2):=by rw [cell_of_row _ _ 2 _ _ _ Z3.out.s];rfl
 have kl:=a9 Z3.out.s
 go_wp2_with fail
 refine (HPL.out w3 Z3.out.ext Z3.out.r.c0).mono ?_
 rintro e w4 ⟨rfl,b4⟩
 have Z4:=VR (Z3.out.tr b4)
 clear b4 k2 kl Z3 HPL
 have HBR:=VR (show ac=match S.ms.findIdx? (fun t=>decide (t.st=r.st)) with
  | some i=>if r.num≤(S.ms.getD i bQ).num then (S,67) else (⟨S.roots,S.pool,S.ms.set i r,S.rs,S.ds⟩,0)
  | none=>if 16≤S.ms.length then (S,72) else (⟨S.roots,S.pool,S.ms++[r],S.rs,S.ds⟩,0) by
    rw [← HAC.out];unfold dP;rw [HSV.out,if_neg (fun q=>q rfl)])
 clear HAC HSV
 obtain ⟨A3,n3,c3,e3,hn3,hnc3,hcm3,hel3⟩:=HR3.out.at_
 obtain ⟨sA3,sn3,sc3⟩:=s2
 unfold slV at e3
 injection e3 with e31 e32 e33
 simp only at e31 e32 e33
 subst e31 e32 e33 hn3
 unfold maxLen at hcm3
 have HEL:=VR hel3
 clear hel3
 cases hf:S.ms.findIdx? (fun t=>decide (t.st=r.st)) with
 | none =>
   have HP:=show plM S.ms r.st=-1 by unfold plM;rw [hf]
   rw [HP]
   rw [hf] at HBR
   clear HP hf
   go_upto_region 7 with fail
   refine Gd.aO 12 (by kernel_rfl) (by kernel_rfl) ?_
   simp only [VH,VE,VI,VJ]
   intro w1 hw1
   repeat (first | (refine Gd.gF (by exact ⟨_,rfl,rfl,rfl⟩) rfl rfl ?_;simp only [Act.put,UY,UZ,V0]) | (refine Gd.aD (by first | exact trivial | exact ⟨_,rfl,rfl,rfl⟩) rfl rfl rfl rfl rfl (fun K hK=>?_);go_big_quiet_op;refine hK _ ?_;clear hK K))
   refine Gd.dT (fun m=>?_)
   have Z5:=VR (Z4.out.tr (hw1.tr m.2))
   clear hw1 Z4
   generalize m.1=w5 at *
   show wpList _ _ _ _ _ _
   have s3c:w5.cell? ⟨w.heap.size,2,none⟩=some (.slice sA3 S.ms.length sc3):=by rw [cell_of_row _ _ 2 _ _ _ Z5.out.s];rfl
   have sl:=a9 Z5.out.s
   by_cases d3:16≤S.ms.length
   case pos =>
    have HA:=VR (show ac=(S,72) by rw [HBR.out];exact if_pos d3)
    have hd:(16:Int)≤(S.ms.length:Int):=by omega
    go_upto_region 12 with fail
    clear s3c sl hd d3
    have HO:=VR Z5.out.o
    have HZ:=VR Z5.out.z
    have H1:=VR (eG t0 t1 t2 t3 t4)
    go_wp2_with (first | (refine wpList_load_row rfl 75 _ rfl g rfl 75 (bD t0 t1 t2 t3 t4) (0,0) _ HO.out Tryz.underlying75 rfl aY ?_) | (refine aK rfl 75 _ _ rfl rfl (w.heap.size+1+1) (bD t0 t1 t2 t3 t4) rfl rfl 75 #[.slice none 0 0,.slice none 0 0,.slice none 0 0,.slice none 0 0,.slice none 0 0] HZ.out aY rfl H1.out ?_))
    have HY:=VR (aZ (cells:=bD t0 t1 t2 t3 t4) HZ.out)
    refine bodyPost_ret (v:=.tuple #[.agg (bD t0 t1 t2 t3 t4),.int .i64 72]) ?_ rfl ⟨t0,t1,t2,t3,t4,by rw [HA.out];rfl,by rw [HA.out];exact (Z5.out.fin _).2,(Z5.out.fin _).1⟩
    simp [results,Tryz.results50,asAddr,run_loadVar_row _ (w.heap.size+1+1) 75 75 (bD t0 t1 t2 t3 t4) (0,0) _ HY.out Tryz.underlying75 rfl aY]
   have HA:=VR (show ac=(⟨S.roots,S.pool,S.ms++[r],S.rs,S.ds⟩,0) by rw [HBR.out];exact if_neg d3)
   have hd:¬ (16:Int)≤(S.ms.length:Int):=by omega
   have HLN:=VR (show S.ms.length≤15 by omega)
   go_upto_region 6 with fail
   clear s3c sl hd d3
   obtain ⟨ps,hps,OP⟩:=Z5.out.own.o2
   have hnt:t2.2.1=ps.length:=by
    obtain ⟨A',n',c',e',hn',-⟩:=OP.1
    unfold slV at e'
    injection e' with _ e2 _
    rw [e2]
    rw [kM.cells_len] at hn'
    exact VP kM.pos hn'
   have HLX:=VR (show t2.2.1*17=(kM.cells ps).length by rw [hnt,kM.cells_len];rfl)
   have HL15:=VR (show t2.2.1≤15 by rw [hnt];have h1:=congrArg List.length hps;rw [List.length_map] at h1;have:=HLN.out;omega)
   have k1:=lD OP.1
   have HOP:=VR OP
   have HPS:=VR hps
   clear hps OP hnt
   refine Gr.aO (r:=(apM (w.heap.size+1+1+1) (slV t2) t2.2.1 (kM.cells ps) r)) 7 (by kernel_rfl) (by kernel_rfl) ?_
   simp only [VH,VE,VI,VJ]
   intro wq hw1
   have JL:∀ m:(apM (w.heap.size+1+1+1) (slV t2) t2.2.1 (kM.cells ps) r).Lt wq,FT (w.heap.size+1+1+1) (slV t2) t2.2.1 (kM.cells ps) r w5 m.1:=fun m=>((apM (w.heap.size+1+1+1) (slV t2) t2.2.1 (kM.cells ps) r).tr hw1 m.2) HOP.out.1
   have JK:=fun m:(apM (w.heap.size+1+1+1) (slV t2) t2.2.1 (kM.cells ps) r).Lt wq=>Z5.out.keep HOP.out (JL m).g
   have JO:∀ m:(apM (w.heap.size+1+1+1) (slV t2) t2.2.1 (kM.cells ps) r).Lt wq,aJ m.1 (w.heap.size+1+1+1) 80 17 (slV t2) (kM.cells ps):=fun m=>(JL m).p1 HOP.out.1
   have JS:∀ m:(apM (w.heap.size+1+1+1) (slV t2) t2.2.1 (kM.cells ps) r).Lt wq,(w.heap.size+1+1+1)≤m.1.heap.size:=fun m=>V9 Z5.out.hg (Nat.le_of_lt (a9 (JK m).1))
   have ko:∀ m:(apM (w.heap.size+1+1+1) (slV t2) t2.2.1 (kM.cells ps) r).Lt wq,m.1.cell? ⟨g,2,none⟩=some (.slice t2.1 t2.2.1 t2.2.2):=fun m=>by rw [cell_of_row _ _ 2 _ _ _ (JK m).1];rfl
   have kg:∀ m:(apM (w.heap.size+1+1+1) (slV t2) t2.2.1 (kM.cells ps) r).Lt wq,g<m.1.heap.size:=fun m=>a9 (JK m).1
   have r0:=fun m:(apM (w.heap.size+1+1+1) (slV t2) t2.2.1 (kM.cells ps) r).Lt wq=>(JK m).2.1.c0
   have r1:=fun m:(apM (w.heap.size+1+1+1) (slV t2) t2.2.1 (kM.cells ps) r).Lt wq=>(JK m).2.1.c1
   have r2:=fun m:(apM (w.heap.size+1+1+1) (slV t2) t2.2.1 (kM.cells ps) r).Lt wq=>(JK m).2.1.c2
   have r3:=fun m:(apM (w.heap.size+1+1+1) (slV t2) t2.2.1 (kM.cells ps) r).Lt wq=>(JK m).2.1.c3
   have r4:=fun m:(apM (w.heap.size+1+1+1) (slV t2) t2.2.1 (kM.cells ps) r).Lt wq=>(JK m).2.1.c4
   have r5:=fun m:(apM (w.heap.size+1+1+1) (slV t2) t2.2.1 (kM.cells ps) r).Lt wq=>(JK m).2.1.c5
   have r6:=fun m:(apM (w.heap.size+1+1+1) (slV t2) t2.2.1 (kM.cells ps) r).Lt wq=>(JK m).2.1.c6
   have r7:=fun m:(apM (w.heap.size+1+1+1) (slV t2) t2.2.1 (kM.cells ps) r).Lt wq=>(JK m).2.1.c7
   have r8:=fun m:(apM (w.heap.size+1+1+1) (slV t2) t2.2.1 (kM.cells ps) r).Lt wq=>(JK m).2.1.c8
   have r9:=fun m:(apM (w.heap.size+1+1+1) (slV t2) t2.2.1 (kM.cells ps) r).Lt wq=>(JK m).2.1.c9
   have r10:=fun m:(apM (w.heap.size+1+1+1) (slV t2) t2.2.1 (kM.cells ps) r).Lt wq=>(JK m).2.1.c10
   have r11:=fun m:(apM (w.heap.size+1+1+1) (slV t2) t2.2.1 (kM.cells ps) r).Lt wq=>(JK m).2.1.c11
   have r12:=fun m:(apM (w.heap.size+1+1+1) (slV t2) t2.2.1 (kM.cells ps) r).Lt wq=>(JK m).2.1.c12
   have r13:=fun m:(apM (w.heap.size+1+1+1) (slV t2) t2.2.1 (kM.cells ps) r).Lt wq=>(JK m).2.1.c13
   have r14:=fun m:(apM (w.heap.size+1+1+1) (slV t2) t2.2.1 (kM.cells ps) r).Lt wq=>(JK m).2.1.c14
   have r15:=fun m:(apM (w.heap.size+1+1+1) (slV t2) t2.2.1 (kM.cells ps) r).Lt wq=>(JK m).2.1.c15
   have r16:=fun m:(apM (w.heap.size+1+1+1) (slV t2) t2.2.1 (kM.cells ps) r).Lt wq=>(JK m).2.1.c16
   have rl:=fun m:(apM (w.heap.size+1+1+1) (slV t2) t2.2.1 (kM.cells ps) r).Lt wq=>(JK m).2.1.lt
   have HJL:=VR JL
   have HJK:=VR JK
   have HJO:=VR JO
   have HJS:=VR JS
   clear JL JK JO JS
   repeat (first | (refine Gr.fE (by first | exact trivial | exact ⟨_,rfl,rfl,rfl⟩) _ rfl rfl rfl rfl rfl ?_;simp only [Act.put,UY,UZ,V0]) | (refine Gr.aD (by first | exact trivial | exact ⟨_,rfl,rfl,rfl⟩) rfl rfl rfl rfl rfl (fun K hK=>?_);go_big_quiet_op;refine hK _ ?_;clear hK K))
   refine Gr.aU (by first | exact trivial | exact ⟨_,rfl,rfl,rfl⟩) (GvM (w.heap.size+1+1+1) (slV t2) (kM.cells ps) r) (FU _ _ _ _ _) (fun _=>[.agg #[.string (aI r.st),.int .i64 r.num,.int .i64 r.day,.slice A r.roots.length c,.string (aI r.sg.st),.int .i64 r.sg.kind,.int .i64 r.sg.num,.int .i64 r.sg.iss,.int .i64 r.sg.own,.int .i64 r.sg.key,.int .i64 r.sg.fr,.int .i64 r.sg.un,.int .i64 r.sg.to,.int .i64 r.sg.e,.int .i64 r.sg.s,.int .i64 r.e,.int .i64 r.s]]) rfl rfl rfl rfl rfl (by kernel_rfl) rfl (fun _=>rfl) (fun m f hf=>(HCR.out m.1 (HJK.out m).2.2).mono fun e w'' ⟨A6,n6,c6,h1,h2,h3⟩=>⟨_,h1,(apM (w.heap.size+1+1+1) (slV t2) t2.2.1 (kM.cells ps) r).ext h3,(HJO.out m).ext h3,A6,n6,c6,rfl,h2.mono (HJS.out m)⟩) ?_
   simp only [Act.put,UY,UZ,V0]
   refine Gr.bJ (by first | exact trivial | exact ⟨_,rfl,rfl,rfl⟩) (GlM (w.heap.size+1+1+1) w5.heap.size (slV t2) (kM.cells ps) r) (FV k1 _ _ _) (fun f=>[(0,f 28)]) rfl rfl rfl rfl rfl (fun _=>rfl) (fun m f hf=>?_) ?_
   · obtain ⟨o,A6,n6,c6,e6,O6⟩:=hf 28 _ rfl rfl
     rw [e6]
     have eA:Ext m.1 (m.1.alloc (.cells (aB r (.slice A6 n6 c6)).toArray 80)):=(Below.refl _ _).alloc (UX _) _
     exact ⟨_,_,KJ m.1 r A6 n6 c6,(apM (w.heap.size+1+1+1) (slV t2) t2.2.1 (kM.cells ps) r).ext eA,o.ext eA,_,_,rfl,(HJL.out m).g.size,aC _ _,O6.ext eA⟩
   simp only [Act.put,UY,UZ,V0]
   refine Gr.uZ (by first | exact trivial | exact ⟨_,rfl,rfl,rfl⟩) (GaM (w.heap.size+1+1+1) (slV t2) t2.2.1 (kM.cells ps) r) (FW _ _ _ _ _) (fun _=>.slice t2.1 t2.2.1 t2.2.2) (fun f=>f 29) rfl rfl rfl rfl rfl rfl (fun _=>rfl) (fun _=>rfl) (fun m f hf=>?_) ?_
   · have h41:GlM (w.heap.size+1+1+1) w5.heap.size (slV t2) (kM.cells ps) r (f 29) m.1:=hf 29 _ rfl rfl
     obtain ⟨u,R6,U6⟩:=h41.rd
     obtain ⟨A8,c8,w8,q1,q2,q3⟩:=QE h41.1 HLX.out R6 U6 (by have:=HL15.out;omega) (HJS.out m)
     exact ⟨_,w8,q1,fun _=>q2,q2.p1 h41.1,A8,c8,rfl,q3⟩
   simp only [Act.put,UY,UZ,V0]
   repeat (first | (refine Gr.fE (by first | exact trivial | exact ⟨_,rfl,rfl,rfl⟩) _ rfl rfl rfl rfl rfl ?_;simp only [Act.put,UY,UZ,V0]) | (refine Gr.aD (by first | exact trivial | exact ⟨_,rfl,rfl,rfl⟩) rfl rfl rfl rfl rfl (fun K hK=>?_);go_big_quiet_op;refine hK _ ?_;clear hK K))
   refine Gr.cO (fun m f hf=>?_)
   obtain ⟨o9,A8,c8,e30,u,o8,U8⟩:=hf 30 _ rfl
   simp only [aV]
   simp only [Act.put,UY,UZ,V0]
   rw [e30]
   obtain ⟨q3,ql,qf,z9⟩:=AcM.app Z5.out HOP.out HPS.out U8 o8 (HJL.out m).g
   have HZ9:=VR z9
   clear hf e30 hw1 HJL HJK HJO HJS ko kg r0 r1 r2 r3 r4 r5 r6 r7 r8 r9 r10 r11 r12 r13 r14 r15 r16 rl o9 o8 U8 z9 k1 HOP
   generalize m.1=w8 at *
   generalize f 28=f28 at *
   generalize f 29=f29 at *
   clear m f
   show wpList _ _ _ _ _ _
   have HO:=VR HZ9.out.o
   have HZ:=VR HZ9.out.z
   have H1:=VR (eG t0 t1 (A8,t2.2.1+1,c8) t3 t4)
   go_wp2_with (first | (refine wpList_load_row rfl 75 _ rfl g rfl 75 (bD t0 t1 (A8,t2.2.1+1,c8) t3 t4) (0,0) _ HO.out Tryz.underlying75 rfl aY ?_) | (refine aK rfl 75 _ _ rfl rfl (w.heap.size+1+1) (bD t0 t1 (A8,t2.2.1+1,c8) t3 t4) rfl rfl 75 #[.slice none 0 0,.slice none 0 0,.slice none 0 0,.slice none 0 0,.slice none 0 0] HZ.out aY rfl H1.out ?_))
   have HY:=VR (aZ (cells:=bD t0 t1 (A8,t2.2.1+1,c8) t3 t4) HZ.out)
   refine bodyPost_ret (v:=.tuple #[.agg (bD t0 t1 (A8,t2.2.1+1,c8) t3 t4),.int .i64 0]) ?_ rfl ⟨t0,t1,(A8,t2.2.1+1,c8),t3,t4,by rw [HA.out];rfl,by rw [HA.out];exact (HZ9.out.fin _).2,(HZ9.out.fin _).1⟩
   simp [results,Tryz.results50,asAddr,run_loadVar_row _ (w.heap.size+1+1) 75 75 (bD t0 t1 (A8,t2.2.1+1,c8) t3 t4) (0,0) _ HY.out Tryz.underlying75 rfl aY]
 | some i =>
   have HP:=show plM S.ms r.st=(i:Int) by unfold plM;rw [hf]
   rw [HP]
   rw [hf] at HBR
   have hil:i<S.ms.length:=(List.findIdx?_eq_some_iff_getElem.1 hf).1
   clear HP hf
   obtain ⟨t,ht⟩:∃ t,S.ms[i]?=some t:=⟨_,V8 hil⟩
   have HG:=VR (show S.ms.getD i bQ=t by rw [List.getD_eq_getElem?_getD,ht];rfl)
   obtain ⟨b,o,rfl,hbl,u,hcell,hu⟩:=HEL.out i t ht
   have hn1:w.cell? ⟨b,o+i*17+1,none⟩=some (.int .i64 t.num):=by
    have:=hcell 1 _ rfl
    rwa [← V4] at this
   have HN1:=VR (And.intro hbl hn1)
   clear hcell hu ht hn1 hbl
   have wi1:IntKind.i64.wrap ((i:Int))=(i:Int):=IntWalk.i64_in _ (by omega)
   have zi1:(0:Int)≤(i:Int):=by omega
   have li1:(i:Int)<(S.ms.length:Int):=by omega
   have ti1:((i:Int)).toNat=i:=by omega
   go_upto_region 7 with fail
   refine Gd.aO 12 (by kernel_rfl) (by kernel_rfl) ?_
   simp only [VH,VE,VI,VJ]
   intro w1 hw1
   have LL:∀ m:Lt w1,Ext w4 m.1:=fun m=>hw1.tr m.2
   have k3:∀ m:Lt w1,m.1.cell? ⟨w.heap.size,2,none⟩=some (.slice (some ⟨b,o,none⟩) S.ms.length sc3):=fun m=>by rw [cell_of_row _ _ 2 _ _ _ (Z4.out.tr (LL m)).s];rfl
   have k1:∀ m:Lt w1,m.1.cell? ⟨b,o+i*17+1,none⟩=some (.int .i64 t.num):=fun m=>((Z4.out.tr (LL m)).ext.cell (p:=⟨b,o+i*17+1,none⟩) HN1.out.1).trans HN1.out.2
   have kr:∀ m:Lt w1,m.1.cell? ⟨w.heap.size+1,1,none⟩=some (.int .i64 r.num):=fun m=>(Z4.out.tr (LL m)).r.c1
   have kl:∀ m:Lt w1,w.heap.size+1<m.1.heap.size:=fun m=>(Z4.out.tr (LL m)).r.lt
   have kl0:∀ m:Lt w1,w.heap.size<m.1.heap.size:=fun m=>Nat.lt_of_succ_lt (kl m)
   have kb:∀ m:Lt w1,b<m.1.heap.size:=fun m=>VG HN1.out.1 (Z4.out.tr (LL m)).ext.size
   repeat (first | (refine Gd.gF (by exact ⟨_,rfl,rfl,rfl⟩) rfl rfl ?_;simp only [Act.put,UY,UZ,V0]) | (refine Gd.aD (by first | exact trivial | exact ⟨_,rfl,rfl,rfl⟩) rfl rfl rfl rfl rfl (fun K hK=>?_);go_big_quiet_op;refine hK _ ?_;clear hK K))
   refine Gd.dT (fun m=>?_)
   have Z5:=VR (Z4.out.tr (LL m))
   clear hw1 LL k3 k1 kr kl kl0 kb Z4
   generalize m.1=w5 at *
   show wpList _ _ _ _ _ _
   by_cases d3:r.num≤t.num
   case pos =>
    have HA:=VR (show ac=(S,67) by rw [HBR.out];show (if r.num≤(S.ms.getD i bQ).num then _ else _)=_;rw [HG.out];exact if_pos d3)
    go_upto_region 8 with fail
    clear d3
    have HO:=VR Z5.out.o
    have HZ:=VR Z5.out.z
    have H1:=VR (eG t0 t1 t2 t3 t4)
    go_wp2_with (first | (refine wpList_load_row rfl 75 _ rfl g rfl 75 (bD t0 t1 t2 t3 t4) (0,0) _ HO.out Tryz.underlying75 rfl aY ?_) | (refine aK rfl 75 _ _ rfl rfl (w.heap.size+1+1) (bD t0 t1 t2 t3 t4) rfl rfl 75 #[.slice none 0 0,.slice none 0 0,.slice none 0 0,.slice none 0 0,.slice none 0 0] HZ.out aY rfl H1.out ?_))
    have HY:=VR (aZ (cells:=bD t0 t1 t2 t3 t4) HZ.out)
    refine bodyPost_ret (v:=.tuple #[.agg (bD t0 t1 t2 t3 t4),.int .i64 67]) ?_ rfl ⟨t0,t1,t2,t3,t4,by rw [HA.out];rfl,by rw [HA.out];exact (Z5.out.fin _).2,(Z5.out.fin _).1⟩
    simp [results,Tryz.results50,asAddr,run_loadVar_row _ (w.heap.size+1+1) 75 75 (bD t0 t1 t2 t3 t4) (0,0) _ HY.out Tryz.underlying75 rfl aY]
   have HA:=VR (show ac=(⟨S.roots,S.pool,S.ms.set i r,S.rs,S.ds⟩,0) by rw [HBR.out];show (if r.num≤(S.ms.getD i bQ).num then _ else _)=_;rw [HG.out];exact if_neg d3)
   obtain ⟨ps,hps,OP⟩:=Z5.out.own.o2
   have hpl:ps.length=S.ms.length:=by rw [← hps,List.length_map]
   have hip:i<ps.length:=by omega
   obtain ⟨gR,cur,hAt,hnt,hnct,hcmt,hBg,hgR⟩:=fA.form (show fA kM w5 _ (.slice t2.1 t2.2.1 t2.2.2) ps from OP) hip
   have HT3:=VR (show (Value.slice t2.1 t2.2.1 t2.2.2)=.slice (some ⟨gR,0,none⟩) ps.length t2.2.2 by rw [hAt,hnt])
   have HOP:=VR OP
   have HGR:=VR hgR
   have HPS:=VR hps
   have HBG:=VR hBg
   unfold maxLen at hcmt
   rw [hnt] at hnct
   clear hps OP hAt hnt hgR hpl hBg
   go_upto_region 10 with fail
   clear d3
   have wi2:IntKind.i64.wrap ((i:Int))=(i:Int):=IntWalk.i64_in _ (by omega)
   have zi2:(0:Int)≤(i:Int):=by omega
   have li2:(i:Int)<(ps.length:Int):=by omega
   have ti2:((i:Int)).toNat=i:=by omega
   refine Gd.aO 6 (by kernel_rfl) (by kernel_rfl) ?_
   simp only [VH,VE,VI,VJ]
   intro wq hw1
   have LL:∀ m:Lt wq,Ext w5 m.1:=fun m=>hw1.tr m.2
   have ko:∀ m:Lt wq,m.1.cell? ⟨g,2,none⟩=some (.slice (some ⟨gR,0,none⟩) ps.length t2.2.2):=fun m=>by rw [cell_of_row _ _ 2 _ _ _ (Z5.out.tr (LL m)).o,← HT3.out];rfl
   have kg:∀ m:Lt wq,g<m.1.heap.size:=fun m=>a9 (Z5.out.tr (LL m)).o
   have r0:=fun m:Lt wq=>(Z5.out.tr (LL m)).r.c0
   have r1:=fun m:Lt wq=>(Z5.out.tr (LL m)).r.c1
   have r2:=fun m:Lt wq=>(Z5.out.tr (LL m)).r.c2
   have r3:=fun m:Lt wq=>(Z5.out.tr (LL m)).r.c3
   have r4:=fun m:Lt wq=>(Z5.out.tr (LL m)).r.c4
   have r5:=fun m:Lt wq=>(Z5.out.tr (LL m)).r.c5
   have r6:=fun m:Lt wq=>(Z5.out.tr (LL m)).r.c6
   have r7:=fun m:Lt wq=>(Z5.out.tr (LL m)).r.c7
   have r8:=fun m:Lt wq=>(Z5.out.tr (LL m)).r.c8
   have r9:=fun m:Lt wq=>(Z5.out.tr (LL m)).r.c9
   have r10:=fun m:Lt wq=>(Z5.out.tr (LL m)).r.c10
   have r11:=fun m:Lt wq=>(Z5.out.tr (LL m)).r.c11
   have r12:=fun m:Lt wq=>(Z5.out.tr (LL m)).r.c12
   have r13:=fun m:Lt wq=>(Z5.out.tr (LL m)).r.c13
   have r14:=fun m:Lt wq=>(Z5.out.tr (LL m)).r.c14
   have r15:=fun m:Lt wq=>(Z5.out.tr (LL m)).r.c15
   have r16:=fun m:Lt wq=>(Z5.out.tr (LL m)).r.c16
   have rl:=fun m:Lt wq=>(Z5.out.tr (LL m)).r.lt
   repeat (refine Gd.aD (by first | exact trivial | exact ⟨_,rfl,rfl,rfl⟩) rfl rfl rfl rfl rfl (fun K hK=>?_);go_big_quiet_op;refine hK _ ?_;clear hK K)
   refine Gd.aU (by first | exact trivial | exact ⟨_,rfl,rfl,rfl⟩) (UE w5.heap.size r) (DM _ _) (fun _=>[.agg #[.string (aI r.st),.int .i64 r.num,.int .i64 r.day,.slice A r.roots.length c,.string (aI r.sg.st),.int .i64 r.sg.kind,.int .i64 r.sg.num,.int .i64 r.sg.iss,.int .i64 r.sg.own,.int .i64 r.sg.key,.int .i64 r.sg.fr,.int .i64 r.sg.un,.int .i64 r.sg.to,.int .i64 r.sg.e,.int .i64 r.sg.s,.int .i64 r.e,.int .i64 r.s]]) rfl rfl rfl rfl rfl (by kernel_rfl) rfl (fun _=>rfl) (fun m f hf=>(HCR.out m.1 (Z5.out.tr (LL m)).ext).mono fun e w'' ⟨A6,n6,c6,h1,h2,h3⟩=>⟨_,h1,h3,A6,n6,c6,rfl,h2.mono (LL m).size⟩) ?_
   simp only [Act.put,UY,UZ,V0]
   repeat (refine Gd.aD (by first | exact trivial | exact ⟨_,rfl,rfl,rfl⟩) rfl rfl rfl rfl rfl (fun K hK=>?_);go_big_quiet_op;refine hK _ ?_;clear hK K)
   refine Gd.cO (fun m f hf=>?_)
   obtain ⟨A6,n6,c6,e54,O6⟩:=hf 54 _ rfl
   simp only [aV]
   simp only [Act.put,UY,UZ,V0]
   rw [e54]
   have Z6:=VR (Z5.out.tr (LL m))
   have OP6:=HOP.out.ext (LL m)
   have hBw:=Z5.out.hg
   have hgw:=a9 Z5.out.o
   obtain ⟨g2,eg,hBg2,hth,hlt2,⟨cs2,hcs2⟩,OP2⟩:=fA.setAt (A:=t2.1) (n:=t2.2.1) (c:=t2.2.2) (a:=r) (u:=.slice A6 n6 c6) OP6 (O6.mono (by omega)) hip
   have hgg:g2=gR:=by
    have:=HT3.out
    rw [eg] at this
    injection this with h1
    injection h1 with h1
    injection h1
   subst hgg
   have HTH:=VR (show m.1.there g2 (i*17) (aB r (.slice A6 n6 c6)).length from hth)
   have HONE:=VR (show (aB r (.slice A6 n6 c6)).toArray.all (·.oneCell')=true from dZ r (.slice A6 n6 c6) rfl)
   have gb:=Gb.setCellsU g2 (aB r (.slice A6 n6 c6)) (i*17) m.1
   have hne:g≠g2:=fun q=>by
    have h1:=Z6.out.o
    rw [q,hcs2] at h1
    injection h1 with h1
    injection h1 with _ h1
    exact absurd h1 (by decide)
   have Z7:Hid (AcM w (m.1.setCells g2 (i*17) (aB r (.slice A6 n6 c6))) s0 s1 (some ⟨b,o,none⟩,S.ms.length,sc3) s3 s4 t0 t1 t2 t3 t4 ⟨S.roots,S.pool,S.ms.set i r,S.rs,S.ds⟩ r (.slice A r.roots.length c) g):=VR
    ⟨Gb.below Z6.out.ext gb (by have:=HBG.out;omega),(gb.block _ (a9 Z6.out.s) (fun q=>by injection q with q;have:=HBG.out;omega)).trans Z6.out.s,(gb.block _ Z6.out.r.lt (fun q=>by injection q with q;have:=HBG.out;omega)).trans Z6.out.r,
      (gb.block _ (a9 Z6.out.z) (fun q=>by injection q with q;have:=HBG.out;omega)).trans Z6.out.z,(gb.block _ (a9 Z6.out.o) (fun q=>by injection q with q;exact hne q)).trans Z6.out.o,
      Z6.out.own.grM (S':=⟨S.roots,S.pool,S.ms.set i r,S.rs,S.ds⟩) hcs2 gb ⟨_,by rw [nB,HPS.out],OP2⟩ rfl rfl rfl rfl,Z6.out.hg⟩
   clear hf e54 hw1 LL ko kg r0 r1 r2 r3 r4 r5 r6 r7 r8 r9 r10 r11 r12 r13 r14 r15 r16 rl O6 OP6 hBw hgw eg hBg2 hth hlt2 hcs2 OP2 gb hne HCR Z5 Z6 HOP HGR
   generalize m.1=w6 at *
   clear m f
   show wpList _ _ _ _ _ _
   refine gX rfl 80 _ _ rfl rfl g2 (i*17) (aB r (.slice A6 n6 c6)) rfl rfl HTH.out aN HONE.out ?_
   generalize w6.setCells g2 (i*17) (aB r (.slice A6 n6 c6))=w7 at *
   have HO:=VR Z7.out.o
   have HZ:=VR Z7.out.z
   have H1:=VR (eG t0 t1 t2 t3 t4)
   go_wp2_with (first | (refine wpList_load_row rfl 75 _ rfl g rfl 75 (bD t0 t1 t2 t3 t4) (0,0) _ HO.out Tryz.underlying75 rfl aY ?_) | (refine aK rfl 75 _ _ rfl rfl (w.heap.size+1+1) (bD t0 t1 t2 t3 t4) rfl rfl 75 #[.slice none 0 0,.slice none 0 0,.slice none 0 0,.slice none 0 0,.slice none 0 0] HZ.out aY rfl H1.out ?_))
   have HY:=VR (aZ (cells:=bD t0 t1 t2 t3 t4) HZ.out)
   refine bodyPost_ret (v:=.tuple #[.agg (bD t0 t1 t2 t3 t4),.int .i64 0]) ?_ rfl ⟨t0,t1,t2,t3,t4,by rw [HA.out];rfl,by rw [HA.out];exact (Z7.out.fin _).2,(Z7.out.fin _).1⟩
   simp [results,Tryz.results50,asAddr,run_loadVar_row _ (w.heap.size+1+1) 75 75 (bD t0 t1 t2 t3 t4) (0,0) _ HY.out Tryz.underlying75 rfl aY]
end Go.Proofs.YtkjplpmogfmhkaaGreatDoor
namespace Go.Proofs.YtkjplpmogfmhkaaGreatDoor
open Go.RowKit
set_option linter.unusedVariables false
set_option maxRecDepth 100000
section
variable {α:Type}{p:α→Bool}{l:List α}
def rR (p:α→Bool) (l:List α) (k:Nat):Nat:=k+(l.drop k).findIdx p
theorem O7:rR p l l.length=l.length:=by simp [rR]
theorem KT {k:Nat}{y:α} (h:l[k]?=some y):rR p l k=if p y=true then k else rR p l (k+1):=by
 obtain ⟨hk,rfl⟩:=List.getElem?_eq_some_iff.1 h
 unfold rR
 rw [List.drop_eq_getElem_cons hk,List.findIdx_cons]
 cases p l[k] with
 | true=>simp
 | false=>simp;omega
theorem KV {i:Nat} (h:l.findIdx? p=some i):rR p l 0=i∧i<l.length:=by
 obtain ⟨h1,h2⟩:=List.findIdx?_eq_some_iff_findIdx_eq.1 h
 exact ⟨by simp [rR,h2],h1⟩
theorem KW (h:l.findIdx? p=none):rR p l 0=l.length:=by
 simp [rR,List.findIdx?_eq_none_iff_findIdx_eq.1 h]
end
theorem OA {S:ST}{m:MA}{day:Int} (h:StB S) (hm:smL m.roots) (hl:m.roots.length≤10000):StB (dP S m day).1:=by
 unfold dP
 split
 · exact h
 · split
   · split
     · exact h
     · exact ⟨h.r,h.p,fun x hx=>(List.mem_or_eq_of_mem_set hx).elim (h.m x) (fun e=>e ▸ ⟨hm,hl⟩),h.s,h.d,h.lr,h.lp,by show (S.ms.set _ m).length≤20;rw [List.length_set];exact h.lm,h.ls,h.ld⟩
   · split
     · exact h
     · refine ⟨h.r,h.p,fun x hx=>(List.mem_append.1 hx).elim (h.m x) (fun e=>by rw [List.mem_singleton.1 e];exact ⟨hm,hl⟩),h.s,h.d,h.lr,h.lp,?_,h.ls,h.ld⟩
       show (S.ms++[m]).length≤20
       rw [V5,List.length_singleton]
       omega
theorem tS (m:MA) (e s:Int):ckM (kB m e s)=ckM m:=rfl
theorem KX (m:MA) (e s:Int):dS (kB m e s)=dS m:=rfl
theorem qJ {k:Int}{m:MA} (hk:inB 1 1073741789 k=true) (hc:ckM m=0):d9 k m=kB m (kP k (dS m)) (mL k (dS m)):=by
 unfold d9 sE sS
 have hs:sK k=0:=if_pos hk
 rw [if_pos ⟨hc,hs⟩,if_pos hk,if_pos hk]
theorem AE {k:Int}{m:MA} (hk:inB 1 1073741789 k=true) (hc:ckM m=0):iO k m=0:=by
 have hs:sK k=0:=if_pos hk
 unfold iO;rw [if_pos hc,hs]
theorem wM {k:Int}{m:MA} (hk:inB 1 1073741789 k=true) (hc:ckM m=0):jH (pw 4 k) (byM (d9 k m)) (d9 k m).e (d9 k m).s=true:=by
 obtain ⟨h0,h1⟩:=cT hk
 rw [qJ hk hc]
 unfold byM
 rw [tS,if_pos hc,KX]
 exact pN h0 h1 _
theorem KY {r c:NC}{day:Int} (hr:oK c.st day r) (hf:eM day r c=true) (hk:c.kind≠1) (ho:onN c day=0):npK [r] [] c day=0:=by
 have hm:r ∈ dB [r] [] c.st day:=by
  obtain ⟨t,ht,_⟩:=yA [r] [] c.st day
  rw [ht]
  exact List.mem_append_left _ (F4.2 ⟨List.mem_singleton.2 rfl,hr⟩)
 have h2:¬ (32<dK [r] c.st ∨ 32<dK [] c.st):=fun q=>q.elim (zX _ _ (by show 1≤32;omega)) (zX _ _ (by show 0≤32;omega))
 cases hp:iZ day (dB [r] [] c.st day) c with
 | some p=>exact (wD ho hk h2 hp).1
 | none =>
   rw [(rF [r] [] c.st day).none_iff] at hp
   obtain ⟨z,hz⟩:=sH (p:=fun a=>eM day a c) hm hf
   rw [show lH day (dB [r] [] c.st day) c=some z from hz] at hp
   cases hp
theorem G4 {r c:NC}{day:Int} (hr:r.st≠c.st) (hk:c.kind≠1) (ho:onN c day=0):npK [r] [] c day=66:=by
 have h2:¬ (32<dK [r] c.st ∨ 32<dK [] c.st):=fun q=>q.elim (zX _ _ (by show 1≤32;omega)) (zX _ _ (by show 0≤32;omega))
 refine (wC ho hk h2 (vH ?_)).1
 unfold lH
 rw [List.find?_eq_none]
 intro x hx
 rcases yB hx with ⟨h1,h3,_⟩ | ⟨h1,_⟩
 · exact absurd h3.1 (by rw [List.mem_singleton.1 h1];exact hr)
 · cases h1
def awM (k:Int) (r c:NC):MA:=d9 k ⟨mR,1,40010,[r],c,0,0⟩
theorem xG {a b:AU} (h:AuI a [40000]) (ha:a.st=mR) (g:AuI b [40000]) (hb:b.st=JN):∃ ca cb:NC,a.roots=[ca]∧b.roots=[cb]∧smN ca∧smN cb∧smN a.ls∧iO a.lsec ⟨mR,1,40010,[cb],a.ls,0,0⟩=0 ∧
 dP ⟨[ca],[],[],[],[]⟩ (awM a.lsec cb a.ls) 40010=(⟨[ca],[],[awM a.lsec cb a.ls],[],[]⟩,0)∧(dP ⟨[ca],[],[awM a.lsec cb a.ls],[],[]⟩ (awM a.lsec cb a.ls) 40010).2=67∧(dP ⟨[cb],[],[],[],[]⟩ (awM a.lsec cb a.ls) 40010).2=66 ∧
 (iN ⟨[ca],[],[awM a.lsec cb a.ls],[],[]⟩).length=2∧(awM a.lsec cb a.ls).roots=[cb]∧(awM a.lsec cb a.ls).sg=a.ls∧(awM a.lsec cb a.ls).st=mR:=by
 have rl:=h.rlen
 have rl2:=g.rlen
 obtain ⟨c,er⟩:∃ c,a.roots=[c]:=by
  match hr:a.roots,rl with
  | [x],_=>exact ⟨x,rfl⟩
 obtain ⟨d,er2⟩:∃ c,b.roots=[c]:=by
  match hr:b.roots,rl2 with
  | [x],_=>exact ⟨x,rfl⟩
 obtain ⟨k1,d1,n1,q1,q2,_,_,R⟩:=h.rt 0 c (by rw [er];rfl)
 obtain ⟨k2,d2,n2,p1,p2,_,_,B⟩:=g.rt 0 d (by rw [er2];rfl)
 obtain ⟨k3,d3,n3,u1,u2,_,_,hk,L⟩:=h.ls (by simp)
 obtain rfl:(40000:Int)=d1:=Option.some.inj q2
 obtain rfl:(40000:Int)=d2:=Option.some.inj p2
 obtain rfl:(40000:Int)=d3:=Option.some.inj u2
 obtain rfl:k1=k3:=Option.some.inj (q1.symm.trans u1)
 have hon:onN a.ls 40010=0:=L.on (by decide) (by decide)
 have hkd:a.ls.kind≠1:=by rw [L.kind];decide
 have hls:a.ls.st=mR:=L.st.trans ha
 have hcs:c.st=mR:=R.st.trans ha
 have hds:d.st=JN:=B.st.trans hb
 have hfol:eM 40010 c a.ls=true:=PT R L (by decide) (.inl rfl) (by decide) rfl (by decide) (by decide) (by decide) (by decide)
 have hroot:oK a.ls.st 40010 c:=by rw [L.st];exact MM R (by decide) (by decide)
 have hp0:npK [c] [] a.ls 40010=0:=KY hroot hfol hkd hon
 have hp1:npK [d] [] a.ls 40010=66:=G4 (by rw [hds,hls];decide) hkd hon
 have hrt:rtN d=true:=by unfold rtN;rw [if_pos B.kind,B.key];exact B.vf
 have hrts:lW [d]=0:=qD (by show ¬ (1<1 ∨ 16<1);omega) (fun j x hj hx=>by
  match j,hj with
  | 0,_=>rw [← Option.some.inj hx];exact B.ck) (fun j x hj hx=>by
  match j,hj with
  | 0,_=>rw [← Option.some.inj hx];exact hrt)
 have hsg:sgE a.ls mR=0:=by unfold sgE;rw [if_neg (not_not_intro L.ck),if_neg (not_not_intro L.kind),if_neg (not_not_intro hls)]
 have hck:ckM ⟨mR,1,40010,[d],a.ls,0,0⟩=0:=by
  unfold ckM
  rw [if_neg (not_not_intro vK),if_neg (not_not_intro (⟨by show (1:Int)≤1;omega,by show (1:Int)≤1073741824;omega⟩)),if_neg (not_not_intro ⟨by show (0:Int)≤40010;omega,by show (40010:Int)≤73048;omega⟩),if_neg (not_not_intro hrts)]
  exact hsg
 have hm:awM a.lsec d a.ls=kB ⟨mR,1,40010,[d],a.ls,0,0⟩ (kP a.lsec (dS ⟨mR,1,40010,[d],a.ls,0,0⟩)) (mL a.lsec (dS ⟨mR,1,40010,[d],a.ls,0,0⟩)):=qJ hk hck
 have hv:jH (pw 4 a.lsec) (byM (awM a.lsec d a.ls)) (awM a.lsec d a.ls).e (awM a.lsec d a.ls).s=true:=wM hk hck
 have hmc:ckM (awM a.lsec d a.ls)=0:=by rw [hm,tS];exact hck
 have f1:(awM a.lsec d a.ls).st=mR:=by rw [hm];rfl
 have f2:(awM a.lsec d a.ls).day=40010:=by rw [hm];rfl
 have f3:(awM a.lsec d a.ls).roots=[d]:=by rw [hm];rfl
 have f4:(awM a.lsec d a.ls).sg=a.ls:=by rw [hm];rfl
 refine ⟨c,d,er,er2,rI R,rI B,rI L,AE hk hck,?_⟩
 generalize awM a.lsec d a.ls=m at *
 have hpub:tB m.sg m.day 40010 (byM m) m.e m.s=0:=by
  unfold tB
  rw [f4,f2,if_neg (by rw [L.fr];omega),if_neg (by rw [L.un];omega),L.key]
  exact if_pos hv
 have hv0:lX [c] [] m 40010=0:=by
  unfold lX wE
  rw [if_neg (not_not_intro hmc),f4,if_neg (not_not_intro hp0),← f4]
  exact hpub
 have hv1:lX [d] [] m 40010=66:=by
  unfold lX wE
  rw [if_neg (not_not_intro hmc),f4,hp1]
  rfl
 have hcd:d ∉ [c]:=fun q=>by
  have:=List.mem_singleton.1 q
  rw [this,hcs] at hds
  exact absurd hds (by decide)
 refine ⟨?_,?_,?_,?_,f3,f4,f1⟩
 · unfold dP
   rw [if_neg (fun q=>q hv0)]
   rfl
 · unfold dP
   rw [if_neg (fun q=>q hv0)]
   have h0:[m].findIdx? (fun t:MA=>decide (t.st=m.st))=some 0:=by
    rw [List.findIdx?_cons,decide_eq_true rfl]
    rfl
   simp only [h0]
   exact congrArg Prod.snd (if_pos (Int.le_refl _))
 · unfold dP
   rw [if_pos (by rw [hv1];decide),hv1]
 · show ([m].foldl (fun out m=>fY out m.roots) (fY [] [c])).length=2
   show (fY (fY [] [c]) m.roots).length=2
   rw [f3]
   have h1:fY [] [c]=[c]:=by
    show fH [] c=[c]
    unfold fH
    rw [if_neg (by simp)]
    rfl
   rw [h1]
   show (fH [c] d).length=2
   unfold fH
   rw [if_neg hcd]
   rfl
theorem UF (W:World) (x y:Int):RdI (W.alloc (.cells #[.int .i64 x,.int .i64 y] 3)) .i64 (.slice (some ⟨W.heap.size,0,none⟩) 2 2) [x,y]:=Rd.lit W _ _ 2 rfl (by unfold maxLen;omega)
theorem DN:yM [0,1]=[40000]:=by decide
theorem AF:gE (dv [0,1] 4)=mR:=by decide
theorem IA {c:NC} (h:smN c):StB ⟨[c],[],[],[],[]⟩:=⟨fun x hx=>by rw [List.mem_singleton.1 hx];exact h,fun x hx=>(by cases hx),fun x hx=>(by cases hx),fun x hx=>(by cases hx),fun x hx=>(by cases hx),by show 1≤10000;omega,by show 0≤10000;omega,by show 0≤20;omega,by show 0≤10000;omega,by show 0≤10000;omega⟩
theorem DO:yM [1,2]=[40000]:=by decide
theorem AG:gE (dv [1,2] 4)=JN:=by decide
theorem SL {c d:NC}{m:MA} (h:smN c) (k:smN d) (hr:m.roots=[d]):StB ⟨[c],[],[m],[],[]⟩:=⟨fun x hx=>by rw [List.mem_singleton.1 hx];exact h,fun x hx=>(by cases hx),fun x hx=>by rw [List.mem_singleton.1 hx,hr];exact ⟨fun y hy=>by rw [List.mem_singleton.1 hy];exact k,by show 1≤10000;omega⟩,fun x hx=>(by cases hx),fun x hx=>(by cases hx),by show 1≤10000;omega,by show 0≤10000;omega,by show 1≤20;omega,by show 0≤10000;omega,by show 0≤10000;omega⟩
set_option maxHeartbeats 16000000 in
theorem DP (w:World) (E:Env w):Calls Tryz.prog 47 #[] w (eP w (.bool true)):=by
 have eA:Ext w (w.alloc (.cells #[.int .i64 0,.int .i64 1] 3)):=(Below.refl _ _).alloc (UX _) _
 have HAU:=VR (kV (w.alloc (.cells #[.int .i64 0,.int .i64 1] 3)) (UF w 0 1) (fun x hx=>by
  simp only [List.mem_cons,List.not_mem_nil,or_false] at hx
  unfold mA
  rcases hx with rfl | rfl <;> omega) (by show 2≤1000;omega) (E.ext eA).r)
 go_enter Tryz.func47,Tryz.ntmps47
 go_wp2_with fail
 refine HAU.out.mono ?_
 rintro e w1 ⟨b1,x,a,rfl,ar,ai,hst,hli,hV,hD',hZ⟩
 rw [DN] at ai
 rw [AF] at hst
 have X1:=eA.tr b1
 have eB:Ext w1 (w1.alloc (.cells #[.int .i64 1,.int .i64 2] 3)):=(Below.refl _ _).alloc (UX _) _
 have HAU2:=VR (kV (w1.alloc (.cells #[.int .i64 1,.int .i64 2] 3)) (UF w1 1 2) (fun x hx=>by
  simp only [List.mem_cons,List.not_mem_nil,or_false] at hx
  unfold mA
  rcases hx with rfl | rfl <;> omega) (by show 2≤1000;omega) (E.ext (X1.tr eB)).r)
 have HAB:=VR (show wK x from ⟨ar.o1.one,ar.o2.one,ar.o3.one,by rw [hV];rfl,by rw [hD'];rfl,by rw [hZ];rfl⟩)
 have HAR:=VR (And.intro ar (And.intro ai (And.intro hst hli)))
 clear ar ai hst hli hV hD' hZ HAU
 unfold abV
 go_wp2_with fail
 refine HAU2.out.mono ?_
 rintro e w2 ⟨b2,y,b,rfl,br,bi,hst2,hli2,hV2,hD2,hZ2⟩
 rw [DO] at bi
 rw [AG] at hst2
 obtain ⟨ar,ai,hst,hli⟩:=HAR.out
 obtain ⟨ca,cb,er,er2,sca,scb,sls,hk0,ac1,ac2,ac3,rt2,mr,mg,mt⟩:=xG ai hst bi hst2
 have X2:=X1.tr (eB.tr b2)
 have hls:=ar.ls
 have hlc:=ar.lsec
 have hxs:=ar.st.trans hst
 rw [← hls] at sls
 rw [← hls,← hlc] at hk0 ac1 ac2 ac3 rt2 mr mg mt
 have rdR:RdN w1 x.R [ca]:=by have h:=ar.o1.rd;rw [er] at h;exact h
 have rdY:RdN w2 y.R [cb]:=by have h:=br.o1.rd;rw [er2] at h;exact h
 have HBB:=VR (show wK y from ⟨br.o1.one,br.o2.one,br.o3.one,by rw [hV2];rfl,by rw [hD2];rfl,by rw [hZ2];rfl⟩)
 have H1:=VR (eR HAB.out)
 have H2:=VR (eR HBB.out)
 obtain ⟨wc,hwc⟩:∃ wc,wc=(((w2.alloc (.cells (.string ⟨#[]⟩::.slice none 0 0::.slice none 0 0::.slice none 0 0::.string ⟨#[]⟩::.int .i64 0::.int .i64 0::.int .i64 0::.int .i64 0::.int .i64 0::.int .i64 0::.int .i64 0::.int .i64 0::.int .i64 0::.int .i64 0::.string ⟨#[]⟩::.int .i64 0::.int .i64 0::.int .i64 0::.int .i64 0::.int .i64 0::.int .i64 0::.int .i64 0::.int .i64 0::.int .i64 0::.int .i64 0::.int .i64 0::.int .i64 0::.int .i64 0::.int .i64 0::.slice none 0 0::.slice none 0 0::.slice none 0 0::([]:List Value)).toArray 98)).alloc (.cells (.string ⟨#[]⟩::.slice none 0 0::.slice none 0 0::.slice none 0 0::.string ⟨#[]⟩::.int .i64 0::.int .i64 0::.int .i64 0::.int .i64 0::.int .i64 0::.int .i64 0::.int .i64 0::.int .i64 0::.int .i64 0::.int .i64 0::.string ⟨#[]⟩::.int .i64 0::.int .i64 0::.int .i64 0::.int .i64 0::.int .i64 0::.int .i64 0::.int .i64 0::.int .i64 0::.int .i64 0::.int .i64 0::.int .i64 0::.int .i64 0::.int .i64 0::.int .i64 0::.slice none 0 0::.slice none 0 0::.slice none 0 0::([]:List Value)).toArray 98)).setRow w2.heap.size (bU x)).setRow (w2.heap.size+1) (bU y):=⟨_,rfl⟩
 have ec:Ext w2 wc:=by rw [hwc];exact aQ (aQ (((Below.refl _ _).alloc (UX _) _).alloc (by simp) _) (UX _) _) (Nat.le_succ _) _
 have HL1:=VR (heap_alloc2_old w2 (.cells (bU cZ) 98) (.cells (bU cZ) 98))
 have hl2:=heap_alloc2_new w2 (.cells (bU cZ) 98) (.cells (bU cZ) 98)
 have HL2:=VR (show (((w2.alloc (.cells (.string ⟨#[]⟩::.slice none 0 0::.slice none 0 0::.slice none 0 0::.string ⟨#[]⟩::.int .i64 0::.int .i64 0::.int .i64 0::.int .i64 0::.int .i64 0::.int .i64 0::.int .i64 0::.int .i64 0::.int .i64 0::.int .i64 0::.string ⟨#[]⟩::.int .i64 0::.int .i64 0::.int .i64 0::.int .i64 0::.int .i64 0::.int .i64 0::.int .i64 0::.int .i64 0::.int .i64 0::.int .i64 0::.int .i64 0::.int .i64 0::.int .i64 0::.int .i64 0::.slice none 0 0::.slice none 0 0::.slice none 0 0::([]:List Value)).toArray 98)).alloc (.cells (.string ⟨#[]⟩::.slice none 0 0::.slice none 0 0::.slice none 0 0::.string ⟨#[]⟩::.int .i64 0::.int .i64 0::.int .i64 0::.int .i64 0::.int .i64 0::.int .i64 0::.int .i64 0::.int .i64 0::.int .i64 0::.int .i64 0::.string ⟨#[]⟩::.int .i64 0::.int .i64 0::.int .i64 0::.int .i64 0::.int .i64 0::.int .i64 0::.int .i64 0::.int .i64 0::.int .i64 0::.int .i64 0::.int .i64 0::.int .i64 0::.int .i64 0::.int .i64 0::.slice none 0 0::.slice none 0 0::.slice none 0 0::([]:List Value)).toArray 98)).setRow w2.heap.size (bU x)).heap[w2.heap.size+1]?=some (.cells (bU cZ) 98 (0,0)) from (dX (by omega)).trans hl2)
 have TX:aS wc w2.heap.size x:=by rw [hwc];exact (dX (by omega)).trans (aZ HL1.out)
 have TY:aS wc (w2.heap.size+1) y:=by rw [hwc];exact aZ HL2.out
 have XC:=VR (X2.tr ec)
 have HRX:=VR (RdK.ext rdR ((eB.tr b2).tr ec):RdN wc x.R [ca])
 have HRY:=VR (RdK.ext rdY ec:RdN wc y.R [cb])
 have HPB:=VR (by
  have h:=kW x [cb] y.R 40010 wc HRY.out (fun q hq=>by rw [List.mem_singleton.1 hq];exact scb) sls (by rw [hxs];unfold maxLen;decide) (by omega) (by omega) HAB.out (E.ext XC.out).r
  rw [hxs,hli] at h
  exact h:Calls Tryz.prog 131 #[abV x,y.R,.int .i64 40010] wc (U7 wc x y.R (awM x.lsec cb x.ls) (iO x.lsec ⟨mR,1,40010,[cb],x.ls,0,0⟩)))
 rw [hk0] at HPB
 have HE:=VR (E.ext XC.out).d
 generalize awM x.lsec cb x.ls=r at *
 have HAC1:=VR ac1
 have HAC2:=VR ac2
 have HAC3:=VR ac3
 have HRT:=VR rt2
 have HMR:=VR (show smL r.roots by rw [mr];exact fun q hq=>by rw [List.mem_singleton.1 hq];exact scb)
 have HML:=VR (show r.roots.length≤10 by rw [mr];show 1≤10;omega)
 have HMG:=VR (show smN r.sg by rw [mg];exact sls)
 have HMT:=VR (show r.st.length≤maxLen by rw [mt];unfold maxLen;decide)
 have HB1:=VR (IA sca)
 have HB2:=VR (SL sca scb mr)
 have HB3:=VR (IA scb)
 have HTX:=VR TX
 have HTY:=VR TY
 clear rdR rdY ar ai br bi hst hst2 hli hli2 hV2 hD2 hZ2 b1 b2 eA eB X1 X2 ec hls hlc hxs HAU2 er er2 sca scb sls hk0 ac1 ac2 ac3 rt2 mr mg mt TX TY E a b hl2 HAR HBB
 unfold abV
 go_upto_region 2 with (first | (refine aK rfl 98 _ _ rfl rfl w2.heap.size (bU x) rfl rfl 98 (bU cZ) HL1.out dF rfl H1.out ?_) | (refine aK rfl 98 _ _ rfl rfl (w2.heap.size+1) (bU y) rfl rfl 98 (bU cZ) HL2.out dF rfl H2.out ?_))
 rw [← hwc]
 clear hwc HL1 HL2 H1 H2
 obtain ⟨gy,hgy⟩:∃ gy,w2.heap.size+1=gy:=⟨_,rfl⟩
 rw [hgy] at HTY
 try rw [hgy]
 clear hgy
 generalize w2.heap.size=g at *
 obtain ⟨AY,nY,cY,hY,-⟩:=id HRY.out
 rw [hY] at HPB HRY
 have HA:=VR HTX.out.row
 have y1:wc.cell? ⟨gy,1,none⟩=some (.slice AY nY cY):=by rw [← hY];exact HTY.out.c1
 have yl:=HTY.out.lt
 go_wp2_with (refine wpList_load_row rfl 98 _ rfl g rfl 98 (bU x) (0,0) _ HA.out Tryz.underlying98 rfl dF ?_)
 refine HPB.out.mono ?_
 rintro e w3 ⟨A2,n2,c2,rfl,q2,b3,-⟩
 obtain ⟨x9,hx9⟩:∃ x9:AB,x9={ x with li:=x.li+1 }:=⟨_,rfl⟩
 have HX9:=VR (show (bU x9).all (·.oneCell')=true by rw [hx9];exact eR ⟨HAB.out.R,HAB.out.L,HAB.out.S,HAB.out.V,HAB.out.D,HAB.out.Z⟩)
 rw [← hx9]
 clear hx9 HPB HA y1 yl
 obtain ⟨wd,hwd⟩:∃ wd,wd=(((w3.alloc (.cells (.string ⟨#[]⟩::.slice none 0 0::.slice none 0 0::.slice none 0 0::.string ⟨#[]⟩::.int .i64 0::.int .i64 0::.int .i64 0::.int .i64 0::.int .i64 0::.int .i64 0::.int .i64 0::.int .i64 0::.int .i64 0::.int .i64 0::.string ⟨#[]⟩::.int .i64 0::.int .i64 0::.int .i64 0::.int .i64 0::.int .i64 0::.int .i64 0::.int .i64 0::.int .i64 0::.int .i64 0::.int .i64 0::.int .i64 0::.int .i64 0::.int .i64 0::.int .i64 0::.slice none 0 0::.slice none 0 0::.slice none 0 0::([]:List Value)).toArray 98)).alloc (.cells #[.string ⟨#[]⟩,.int .i64 0,.int .i64 0,.slice none 0 0,.string ⟨#[]⟩,.int .i64 0,.int .i64 0,.int .i64 0,.int .i64 0,.int .i64 0,.int .i64 0,.int .i64 0,.int .i64 0,.int .i64 0,.int .i64 0,.int .i64 0,.int .i64 0] 80)).setRow w3.heap.size (bU x9)).setRow (w3.heap.size+1) (aB r (.slice A2 n2 c2)).toArray:=⟨_,rfl⟩
 have ed:Ext w3 wd:=by rw [hwd];exact aQ (aQ (((Below.refl _ _).alloc (UX _) _).alloc (by simp) _) (UX _) _) (Nat.le_succ _) _
 have HD1:=VR (heap_alloc2_old w3 (.cells (bU cZ) 98) (.cells #[.string ⟨#[]⟩,.int .i64 0,.int .i64 0,.slice none 0 0,.string ⟨#[]⟩,.int .i64 0,.int .i64 0,.int .i64 0,.int .i64 0,.int .i64 0,.int .i64 0,.int .i64 0,.int .i64 0,.int .i64 0,.int .i64 0,.int .i64 0,.int .i64 0] 80))
 have hd2:=heap_alloc2_new w3 (.cells (bU cZ) 98) (.cells #[.string ⟨#[]⟩,.int .i64 0,.int .i64 0,.slice none 0 0,.string ⟨#[]⟩,.int .i64 0,.int .i64 0,.int .i64 0,.int .i64 0,.int .i64 0,.int .i64 0,.int .i64 0,.int .i64 0,.int .i64 0,.int .i64 0,.int .i64 0,.int .i64 0] 80)
 have HD2:=VR (show (((w3.alloc (.cells (.string ⟨#[]⟩::.slice none 0 0::.slice none 0 0::.slice none 0 0::.string ⟨#[]⟩::.int .i64 0::.int .i64 0::.int .i64 0::.int .i64 0::.int .i64 0::.int .i64 0::.int .i64 0::.int .i64 0::.int .i64 0::.int .i64 0::.string ⟨#[]⟩::.int .i64 0::.int .i64 0::.int .i64 0::.int .i64 0::.int .i64 0::.int .i64 0::.int .i64 0::.int .i64 0::.int .i64 0::.int .i64 0::.int .i64 0::.int .i64 0::.int .i64 0::.int .i64 0::.slice none 0 0::.slice none 0 0::.slice none 0 0::([]:List Value)).toArray 98)).alloc (.cells #[.string ⟨#[]⟩,.int .i64 0,.int .i64 0,.slice none 0 0,.string ⟨#[]⟩,.int .i64 0,.int .i64 0,.int .i64 0,.int .i64 0,.int .i64 0,.int .i64 0,.int .i64 0,.int .i64 0,.int .i64 0,.int .i64 0,.int .i64 0,.int .i64 0] 80)).setRow w3.heap.size (bU x9)).heap[w3.heap.size+1]?=some (.cells #[.string ⟨#[]⟩,.int .i64 0,.int .i64 0,.slice none 0 0,.string ⟨#[]⟩,.int .i64 0,.int .i64 0,.int .i64 0,.int .i64 0,.int .i64 0,.int .i64 0,.int .i64 0,.int .i64 0,.int .i64 0,.int .i64 0,.int .i64 0,.int .i64 0] 80 (0,0)) from (dX (by omega)).trans hd2)
 have HR1:=VR (dZ r (.slice A2 n2 c2) rfl)
 have hrd:aX wd (w3.heap.size+1) r (.slice A2 n2 c2):=by rw [hwd];exact aZ HD2.out
 have BD:=b3.tr ed
 have HXD:=VR (XC.out.tr BD)
 have HTD:=VR (HTX.out.ext BD)
 have HTE:=VR (HTY.out.ext BD)
 have HRD:=VR hrd
 have HQD:=VR (RdK.ext q2 ed:RdN wd (.slice A2 n2 c2) r.roots)
 have HRRD:=VR (RdK.ext HRX.out BD:RdN wd x.R [ca])
 have HRYD:=VR (RdK.ext HRY.out BD:RdN wd (.slice AY nY cY) [cb])
 have HED:=VR (HE.out.below BD)
 clear hd2 ed b3 q2 hrd BD HTX HTY HRX HRY HE XC
 unfold abV maV aB
 go_upto_region 3 with (first | (refine aK rfl 98 _ _ rfl rfl w3.heap.size (bU x9) rfl rfl 98 (bU cZ) HD1.out dF rfl HX9.out ?_) | (refine aK rfl 80 _ _ rfl rfl (w3.heap.size+1) (aB r (.slice A2 n2 c2)).toArray rfl rfl 80 #[.string ⟨#[]⟩,.int .i64 0,.int .i64 0,.slice none 0 0,.string ⟨#[]⟩,.int .i64 0,.int .i64 0,.int .i64 0,.int .i64 0,.int .i64 0,.int .i64 0,.int .i64 0,.int .i64 0,.int .i64 0,.int .i64 0,.int .i64 0,.int .i64 0] HD2.out aN rfl HR1.out ?_))
 rw [← hwd]
 clear hwd HD1 HD2
 obtain ⟨gr,hgr⟩:∃ gr,w3.heap.size+1=gr:=⟨_,rfl⟩
 rw [hgr] at HRD
 try rw [hgr]
 clear hgr
 obtain ⟨AR,nR,cR,hR,-⟩:=id HRRD.out
 have HRS:=VR (show RdN wd (.slice AR nR cR) [ca] by rw [← hR];exact HRRD.out)
 have c1:wd.cell? ⟨g,1,none⟩=some (.slice AR nR cR):=by rw [← hR];exact HTD.out.c1
 have cl:=HTD.out.lt
 have HRR:=VR HRD.out.row
 have HAcc:=VR (j6 (AR,nR,cR) (none,0,0) (none,0,0) (none,0,0) (none,0,0) ⟨[ca],[],[],[],[]⟩ r (.slice A2 n2 c2) 40010 wd ⟨HRS.out,RdK.nil_ _ _ _,RdX.nil_ _ _ _,RdX.nil_ _ _ _,RdX.nil_ _ _ _⟩ HB1.out HQD.out HMT.out HMR.out HMG.out (by have:=HML.out;omega) HED.out)
 rw [HAC1.out] at HAcc
 clear HRRD HRS
 go_wp2_with (refine wpList_load_row rfl 80 _ rfl gr rfl 80 (aB r (.slice A2 n2 c2)).toArray (0,0) _ HRR.out Tryz.underlying80 rfl aN ?_)
 refine HAcc.out.mono ?_
 rintro e w4 ⟨t0,t1,t2,t3,t4,rfl,SR,b4⟩
 clear c1 cl HRR HAcc HAC1 HB1 hR
 obtain ⟨wf,hwf⟩:∃ wf,wf=w4.alloc (.cells #[.slice t0.1 t0.2.1 t0.2.2,.slice t1.1 t1.2.1 t1.2.2,.slice t2.1 t2.2.1 t2.2.2,.slice t3.1 t3.2.1 t3.2.2,.slice t4.1 t4.2.1 t4.2.2] 75):=⟨_,rfl⟩
 have ef:Ext w4 wf:=by rw [hwf];exact (Below.refl _ _).alloc (UX _) _
 have hf:wf.heap[w4.heap.size]?=some (.cells (bD t0 t1 t2 t3 t4) 75 (0,0)):=by rw [hwf];exact aC w4 _
 have BF:=b4.tr ef
 have HXF:=VR (HXD.out.tr BF)
 have HTF:=VR (HTE.out.ext BF)
 have HRF0:=VR (HRD.out.ext BF)
 have HRF:=VR HRF0.out.row
 have HQF:=VR (RdK.ext HQD.out BF:RdN wf (.slice A2 n2 c2) r.roots)
 have HRYF:=VR (RdK.ext HRYD.out BF:RdN wf (.slice AY nY cY) [cb])
 have HEF:=VR (HED.out.below BF)
 have HSF:=VR (show StR wf t0 t1 t2 t3 t4 ⟨[ca],[],[r],[],[]⟩ from SR.ext ef)
 have HSB:=VR hf
 clear ef BF SR b4 HXD HTD HTE HRD HQD HRYD HED hf
 unfold cH
 go_upto_region 4 with fail
 rw [← hwf]
 clear hwf
 generalize w4.heap.size=gs at *
 have HAcc:=VR (j6 t0 t1 t2 t3 t4 ⟨[ca],[],[r],[],[]⟩ r (.slice A2 n2 c2) 40010 wf HSF.out HB2.out HQF.out HMT.out HMR.out HMG.out (by have:=HML.out;omega) HEF.out)
 rw [HAC2.out] at HAcc
 go_wp2_with (first | (refine wpList_load_row rfl 75 _ rfl gs rfl 75 (bD t0 t1 t2 t3 t4) (0,0) _ HSB.out Tryz.underlying75 rfl aY ?_) | (refine wpList_load_row rfl 80 _ rfl gr rfl 80 (aB r (.slice A2 n2 c2)).toArray (0,0) _ HRF.out Tryz.underlying80 rfl aN ?_))
 refine HAcc.out.mono ?_
 rintro e w5 ⟨v0,v1,v2,v3,v4,rfl,-,b5⟩
 clear HAcc HAC2 HRF
 obtain ⟨wg,hwg⟩:∃ wg,wg=w5.alloc (.cells #[.slice v0.1 v0.2.1 v0.2.2,.slice v1.1 v1.2.1 v1.2.2,.slice v2.1 v2.2.1 v2.2.2,.slice v3.1 v3.2.1 v3.2.2,.slice v4.1 v4.2.1 v4.2.2] 75):=⟨_,rfl⟩
 have eg:Ext w5 wg:=by rw [hwg];exact (Below.refl _ _).alloc (UX _) _
 have BG:=b5.tr eg
 have HXG:=VR (HXF.out.tr BG)
 have HTG:=VR (HTF.out.ext BG)
 have HRG:=VR (HRF0.out.ext BG).row
 have HQG:=VR (RdK.ext HQF.out BG:RdN wg (.slice A2 n2 c2) r.roots)
 have HRYG:=VR (RdK.ext HRYF.out BG:RdN wg (.slice AY nY cY) [cb])
 have HEG:=VR (HEF.out.below BG)
 have HSG:=VR (HSF.out.ext BG)
 have HBG:=VR ((BG.block _ (a9 HSB.out)).trans HSB.out)
 clear eg BG b5 HXF HTF HRF0 HQF HRYF HEF HSF HSB
 unfold cH
 go_upto_region 5 with fail
 rw [← hwg]
 clear hwg
 have y1:wg.cell? ⟨gy,1,none⟩=some (.slice AY nY cY):=by rw [← hY];exact HTG.out.c1
 have yl:=HTG.out.lt
 have HAcc:=VR (j6 (AY,nY,cY) (none,0,0) (none,0,0) (none,0,0) (none,0,0) ⟨[cb],[],[],[],[]⟩ r (.slice A2 n2 c2) 40010 wg ⟨HRYG.out,RdK.nil_ _ _ _,RdX.nil_ _ _ _,RdX.nil_ _ _ _,RdX.nil_ _ _ _⟩ HB3.out HQG.out HMT.out HMR.out HMG.out (by have:=HML.out;omega) HEG.out)
 rw [HAC3.out] at HAcc
 go_wp2_with (refine wpList_load_row rfl 80 _ rfl gr rfl 80 (aB r (.slice A2 n2 c2)).toArray (0,0) _ HRG.out Tryz.underlying80 rfl aN ?_)
 refine HAcc.out.mono ?_
 rintro e w6 ⟨u0,u1,u2,u3,u4,rfl,-,b6⟩
 clear HAcc HAC3 y1 yl HRG HQG HRYG HEG HTG hY
 obtain ⟨wh,hwh⟩:∃ wh,wh=w6.alloc (.cells #[.slice u0.1 u0.2.1 u0.2.2,.slice u1.1 u1.2.1 u1.2.2,.slice u2.1 u2.2.1 u2.2.2,.slice u3.1 u3.2.1 u3.2.2,.slice u4.1 u4.2.1 u4.2.2] 75):=⟨_,rfl⟩
 have eh:Ext w6 wh:=by rw [hwh];exact (Below.refl _ _).alloc (UX _) _
 have BH:=b6.tr eh
 have HXH:=VR (HXG.out.tr BH)
 have HSH:=VR (HSG.out.ext BH)
 have hb:=(BH.block _ (a9 HBG.out)).trans HBG.out
 clear eh BH b6 HXG HSG HBG
 unfold cH
 go_upto_region 6 with fail
 rw [← hwh]
 clear hwh
 have p0:wh.cell? ⟨gs,0,none⟩=some (.slice t0.1 t0.2.1 t0.2.2):=by rw [cell_of_row _ _ 0 _ _ _ hb];rfl
 have p1:wh.cell? ⟨gs,1,none⟩=some (.slice t1.1 t1.2.1 t1.2.2):=by rw [cell_of_row _ _ 1 _ _ _ hb];rfl
 have p2:wh.cell? ⟨gs,2,none⟩=some (.slice t2.1 t2.2.1 t2.2.2):=by rw [cell_of_row _ _ 2 _ _ _ hb];rfl
 have p3:wh.cell? ⟨gs,3,none⟩=some (.slice t3.1 t3.2.1 t3.2.2):=by rw [cell_of_row _ _ 3 _ _ _ hb];rfl
 have p4:wh.cell? ⟨gs,4,none⟩=some (.slice t4.1 t4.2.1 t4.2.2):=by rw [cell_of_row _ _ 4 _ _ _ hb];rfl
 have pl:=a9 hb
 clear hb
 have HRO:=VR (yL t0 t1 t2 t3 t4 ⟨[ca],[],[r],[],[]⟩ wh HSH.out.r0 HSH.out.r2 HB2.out)
 go_wp2_with fail
 refine HRO.out.mono ?_
 rintro e w7 ⟨b7,A7,c7,rfl,-⟩
 have X9:=VR (HXH.out.tr b7)
 rw [HRT.out]
 clear p0 p1 p2 p3 p4 pl HRO b7
 go_wp2_with fail
 go_ret
 exact ⟨rfl,X9.out⟩
end Go.Proofs.YtkjplpmogfmhkaaGreatDoor
