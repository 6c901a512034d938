/- Parts Ua Ab of the proof. -/
import Derived.Test.YtkjplpmogfmhkaaGreatDoorHax
import Derived.Deep.MidRow
namespace Go.Proofs.YtkjplpmogfmhkaaGreatDoor
open Go.RowKit
set_option linter.unusedVariables false
set_option maxRecDepth 100000
theorem fU (g:Nat):∀ (vs:List Value) (i:Nat) (w:World),w.setCells g i vs=OO w g i vs
 | [],i,w=>rfl
 | v::vs,i,w=>fU g vs (i+1) _
theorem Gb.setCellsU (g:Nat):∀ (vs:List Value) (i:Nat) (w:World),Gb g w (w.setCells g i vs)
 | [],i,w=>Gb.refl _ _
 | v::vs,i,w=>(Gb.set g i w v).tr (Gb.setCellsU g vs (i+1) _)
theorem Rd.k1 {w:World}{v:Value}{xs:List Value} (h:Rd w v xs):RdK w 1 v xs:=by
 obtain ⟨A,n,c,rfl,hn,hr⟩:=h
 exact ⟨A,n,c,rfl,by omega,hr⟩
theorem RdK.r1 {w:World}{v:Value}{xs:List Value} (h:RdK w 1 v xs):Rd w v xs:=by
 obtain ⟨A,n,c,rfl,hn,hr⟩:=h
 exact ⟨A,n,c,rfl,by omega,hr⟩
theorem Own.k1 {w:World}{B:Nat}{e:TypeId}{v:Value}{xs:List Value} (h:Own w B e v xs):aJ w B e 1 v xs:=by
 obtain ⟨A,n,c,rfl,hn,h | ⟨g,cur,rfl,hB,hg,hnc,hcm,hcs,ht⟩⟩:=h
 · exact ⟨A,n,c,rfl,by omega,.inl h⟩
 · exact ⟨_,n,c,rfl,by omega,.inr ⟨g,cur,rfl,hB,hg,hnc,hcm,by omega,by rw [Nat.mul_one];exact ht⟩⟩
structure LK (α:Type) where
 T:TypeId
 k:Nat
 row:α->Value->List Value
 E:TypeId
 ek:Nat
 inn:α->List Value
 len:∀ a u,(row a u).length=k
 pos:0<k
 ne:E≠T
 one:∀ a u,u.oneCell'=true->∀ x ∈ row a u,x.oneCell'=true
section
variable {α:Type}{K:LK α}{w w':World}{B:Nat}{v:Value}{l:List α}{ps:List (α × Value)}
def LK.cells (K:LK α) (ps:List (α × Value)):List Value:=ps.flatMap fun p=>K.row p.1 p.2
theorem LK.cells_len (K:LK α) (ps:List (α × Value)):(K.cells ps).length=ps.length*K.k:=iZ (fun p:α × Value=>K.row p.1 p.2) K.k (fun p=>K.len p.1 p.2) ps
theorem LK.cells_snoc (K:LK α) (ps:List (α × Value)) (a:α) (u:Value):K.cells ps++K.row a u=K.cells (ps++[(a,u)]):=by simp [LK.cells]
theorem LK.cells_app (K:LK α) (ps qs:List (α × Value)):K.cells (ps++qs)=K.cells ps++K.cells qs:=by simp [LK.cells]
theorem LK.cells_sing (K:LK α) (a:α) (u:Value):K.cells [(a,u)]=K.row a u:=by simp [LK.cells]
def RdX (K:LK α) (w:World) (v:Value) (l:List α):Prop:=∃ ps:List (α × Value),ps.map Prod.fst=l/\RdK w K.k v (K.cells ps)/\∀ p ∈ ps,RdK w K.ek p.2 (K.inn p.1)
def eY (K:LK α) (w:World) (B:Nat) (v:Value) (ps:List (α × Value)):Prop:=aJ w B K.T K.k v (K.cells ps)/\∀ p ∈ ps,aJ w B K.E K.ek p.2 (K.inn p.1)
def hO (K:LK α) (w:World) (B:Nat) (v:Value) (l:List α):Prop:=∃ ps:List (α × Value),ps.map Prod.fst=l/\eY K w B v ps
theorem RdX.ext (h:RdX K w v l) (e:Ext w w'):RdX K w' v l:=by
 obtain ⟨ps,h1,h2,h3⟩:=h
 exact ⟨ps,h1,h2.ext e,fun p hp=>(h3 p hp).ext e⟩
theorem eY.rd (h:eY K w B v ps):RdX K w v (ps.map Prod.fst):=⟨ps,rfl,h.1.rd,fun p hp=>(h.2 p hp).rd⟩
theorem hO.rd (h:hO K w B v l):RdX K w v l:=by
 obtain ⟨ps,h1,h2⟩:=h
 subst h1
 exact h2.rd
theorem eY.ext (h:eY K w B v ps) (e:Ext w w'):eY K w' B v ps:=⟨h.1.ext e,fun p hp=>(h.2 p hp).ext e⟩
theorem eY.mono {B':Nat} (h:eY K w B v ps) (hB:B'<=B):eY K w B' v ps:=⟨h.1.mono hB,fun p hp=>(h.2 p hp).mono hB⟩
theorem hO.ext (h:hO K w B v l) (e:Ext w w'):hO K w' B v l:=by
 obtain ⟨ps,h1,h2⟩:=h
 exact ⟨ps,h1,h2.ext e⟩
theorem hO.mono {B':Nat} (h:hO K w B v l) (hB:B'<=B):hO K w B' v l:=by
 obtain ⟨ps,h1,h2⟩:=h
 exact ⟨ps,h1,h2.mono hB⟩
theorem eY.empty (K:LK α) (w:World) (B:Nat) (A:Option Addr):eY K w B (.slice A 0 0) []:=⟨aJ.empty _ _ _ _ _,fun p hp=>(by cases hp)⟩
theorem RdX.nil_ (K:LK α) (w:World) (A:Option Addr):RdX K w (.slice A 0 0) []:=⟨[],rfl,RdK.nil_ _ _ _,fun p hp=>(by cases hp)⟩
theorem eY.gb {g T:Nat}{cs:Array Value}{fr:Nat × Nat} (h:eY K w B v ps) (hg:w.heap[g]?=some (.cells cs T fr)) (h1:K.T≠T) (h2:K.E≠T) (e:w.grownBy w' (some g)):eY K w' B v ps :=
 ⟨h.1.grown e (.inr (h.1.row_blk hg h1)),fun p hp=>(h.2 p hp).grown e (.inr ((h.2 p hp).row_blk hg h2))⟩
theorem hO.gb {g T:Nat}{cs:Array Value}{fr:Nat × Nat} (h:hO K w B v l) (hg:w.heap[g]?=some (.cells cs T fr)) (h1:K.T≠T) (h2:K.E≠T) (e:w.grownBy w' (some g)):hO K w' B v l:=by
 obtain ⟨ps,q1,q2⟩:=h
 exact ⟨ps,q1,q2.gb hg h1 h2 e⟩
theorem eY.gbB {g:Nat} (h:eY K w B v ps) (hg:g<B) (e:w.grownBy w' (some g)):eY K w' B v ps :=
 ⟨h.1.grown e (.inr fun q=>by have:=aZ h.1 _ q;omega),fun p hp=>(h.2 p hp).grown e (.inr fun q=>by have:=aZ (h.2 p hp) _ q;omega)⟩
theorem hO.gbB {g:Nat} (h:hO K w B v l) (hg:g<B) (e:w.grownBy w' (some g)):hO K w' B v l:=by
 obtain ⟨ps,q1,q2⟩:=h
 exact ⟨ps,q1,q2.gbB hg e⟩
theorem eY.grow {B2 e2 k2:Nat}{v2:Value}{x2:List Value} (h:eY K w B v ps) (o:aJ w B2 e2 k2 v2 x2) (h1:e2≠K.T) (h2:e2≠K.E) (e:w.grownBy w' (aO v2)):eY K w' B v ps :=
 ⟨h.1.grown e (o.row_ne h.1 h1),fun p hp=>(h.2 p hp).grown e (o.row_ne (h.2 p hp) h2)⟩
theorem hO.grow {B2 e2 k2:Nat}{v2:Value}{x2:List Value} (h:hO K w B v l) (o:aJ w B2 e2 k2 v2 x2) (h1:e2≠K.T) (h2:e2≠K.E) (e:w.grownBy w' (aO v2)):hO K w' B v l:=by
 obtain ⟨ps,q1,q2⟩:=h
 exact ⟨ps,q1,q2.grow o h1 h2 e⟩
theorem eY.app {v' u:Value}{a:α} (h:eY K w B v ps) (hi:aJ w B K.E K.ek u (K.inn a)) (o:aJ w' B K.T K.k v' (K.cells ps++K.row a u)) (g:w.grownBy w' (aO v)):eY K w' B v' (ps++[(a,u)]):=by
 refine ⟨by rw [<- K.cells_snoc];exact o,fun p hp=>?_⟩
 rcases List.mem_append.1 hp with hp | hp
 · exact (h.2 p hp).grown g (h.1.row_ne (h.2 p hp) K.ne.symm)
 · rw [List.mem_singleton.1 hp]
   exact hi.grown g (h.1.row_ne hi K.ne.symm)
theorem eY.setAt {A:Option Addr}{n c i:Nat}{a:α}{u:Value} (h:eY K w B (.slice A n c) ps) (hu:aJ w B K.E K.ek u (K.inn a)) (hi:i<ps.length) :
 ∃ g,A=some ⟨g,0,none⟩/\B<=g/\w.there g (i*K.k) K.k/\g<w.heap.size/\(∃ cs,w.heap[g]?=some (.cells cs K.T (0,0)))/\eY K (w.setCells g (i*K.k) (K.row a u)) B (.slice A n c) (ps.set i (a,u)):=by
 have ho:=h.1
 obtain ⟨A',n',c',e,hn,hc⟩:=ho
 injection e with e1 e2 e3
 subst e1 e2 e3
 rw [K.cells_len] at hn
 obtain rfl:n=ps.length:=ZD K.pos hn
 rcases hc with ⟨h0,_⟩ | ⟨g,cur,rfl,hB,hg,hnc,hcm,hcs,ht⟩
 · omega
 have hiK:i*K.k+K.k<=c*K.k:=by rw [<- Nat.succ_mul];exact Nat.mul_le_mul_right _ (by omega)
 have hgb:=Gb.setCellsU g (K.row a u) (i*K.k) w
 refine ⟨g,rfl,hB,fun j hj=>⟨?_,by simp [World.frozen?,hg]⟩,aA hg,⟨_,hg⟩,?_,fun p hp=>?_⟩
 · rw [cell_of_row w g _ cur _ _ hg]
   simp
   omega
 · have e:ps=ps.take i++[ps[i]]++ps.drop (i+1):=by
    rw [YW,List.singleton_append,<- List.drop_eq_getElem_cons hi,List.take_append_drop]
   have e2:ps.set i (a,u)=ps.take i++[(a,u)]++ps.drop (i+1):=by
    rw [List.set_eq_take_append_cons_drop,if_pos hi,YW]
    rfl
   have hcc:cur.toList=K.cells ps++cur.toList.drop (ps.length*K.k):=by rw [<- ht,List.take_append_drop]
   generalize hR:cur.toList.drop (ps.length*K.k)=R at hcc
   have hl:(K.cells (ps.take i)).length=i*K.k:=by rw [K.cells_len,YY,Nat.min_eq_left (Nat.le_of_lt hi)]
   have h':w.heap[g]?=some (.cells (K.cells (ps.take i)++K.row ps[i].1 ps[i].2++(K.cells (ps.drop (i+1))++R)).toArray K.T (0,0)):=by
    rw [hg]
    congr 2
    rw [<- Array.toArray_toList (xs:=cur),hcc]
    congr 1
    conv=>lhs;rw [e,K.cells_app,K.cells_app,K.cells_sing]
    simp only [YW]
   have h2:=lE (K.row a u) (K.cells (ps.take i)) (K.cells (ps.drop (i+1))++R) w g (K.row ps[i].1 ps[i].2) K.T (0,0) h' (by rw [K.len,K.len])
   rw [hl,<- fU] at h2
   have h3:(K.cells (ps.take i)++K.row a u++(K.cells (ps.drop (i+1))++R))=K.cells (ps.set i (a,u))++R:=by
    rw [e2,K.cells_app,K.cells_app,K.cells_sing]
    simp only [YW]
   rw [h3] at h2
   have hls:(K.cells (ps.set i (a,u))).length=ps.length*K.k:=by rw [K.cells_len,List.length_set]
   have hRl:R.length=c*K.k - ps.length*K.k:=by rw [<- hR,List.length_drop,Array.length_toList,hcs]
   have hlc:ps.length*K.k<=c*K.k:=Nat.mul_le_mul_right _ hnc
   refine ⟨_,ps.length,c,rfl,hls.symm,.inr ⟨g,_,rfl,hB,h2,hnc,hcm,?_,?_⟩⟩
   · show (K.cells (ps.set i (a,u))++R).length=c*K.k
     rw [YJ,hls,hRl]
     omega
   · show (K.cells (ps.set i (a,u))++R).take _=_
     rw [<- hls]
     exact List.take_left
 · rcases List.mem_or_eq_of_mem_set hp with hp | rfl
   · exact (h.2 p hp).grown hgb (.inr ((h.2 p hp).row_blk hg K.ne))
   · exact hu.grown hgb (.inr (hu.row_blk hg K.ne))
theorem RdX.at_ (h:RdX K w v l):∃ A n c,v=.slice A n c/\n=l.length/\n<=c/\c<=maxLen/\∀ (i:Nat) (a:α),l[i]?=some a->∃ b o,A=some ⟨b,o,none⟩/\b<w.heap.size/\∃ u,(∀ (j:Nat) (x:Value),(K.row a u)[j]?=some x->w.cell? ⟨b,o+(i*K.k+j),none⟩=some x)/\RdK w K.ek u (K.inn a):=by
 obtain ⟨ps,rfl,⟨A,n,c,rfl,hn,hnc,hcm,hc⟩,hi⟩:=h
 rw [K.cells_len] at hn
 obtain rfl:n=ps.length:=ZD K.pos hn
 refine ⟨A,_,c,rfl,by rw [List.length_map],hnc,hcm,fun i a ha=>?_⟩
 rw [List.getElem?_map] at ha
 obtain ⟨p,hp,rfl⟩:=Option.map_eq_some_iff.1 ha
 have hil:=(List.getElem?_eq_some_iff.1 hp).1
 obtain ⟨b,o,rfl,hcell⟩:=hc (by omega)
 have key:∀ (j:Nat) (x:Value),(K.row p.1 p.2)[j]?=some x->w.cell? ⟨b,o+(i*K.k+j),none⟩=some x:=fun j x hx=>by
  refine hcell _ _ ?_
  have hj:j<K.k:=by rw [<- K.len p.1 p.2];exact (List.getElem?_eq_some_iff.1 hx).1
  have:=mY (fun p:α × Value=>K.row p.1 p.2) K.k (fun p=>K.len p.1 p.2) ps i hil j hj
  rw [YL hil] at hp
  rw [Option.some.inj hp] at this
  exact this.trans hx
 have hb:b<w.heap.size:=by
  have h0:0<(K.row p.1 p.2).length:=by rw [K.len];exact K.pos
  exact World.block_lt_of_cell? w _ (key 0 _ (YL h0))
 exact ⟨b,o,rfl,hb,p.2,key,hi p (YS hp)⟩
end
def aY (r:RV) (v:Value):List Value:=[.string (aK r.st),.int .i64 r.num,.int .i64 r.day,.int .i64 r.nxt,v,.int .i64 r.iss,.int .i64 r.e,.int .i64 r.s]
structure MA where
 st:List UInt8
 num:Int
 day:Int
 roots:List NC
 sg:NC
 e:Int
 s:Int
structure DF where
 kind:Int
 param:Int
 signer:Int
 fi:List UInt8
 la:List UInt8
structure DV where
 st:List UInt8
 num:Int
 day:Int
 defs:List DF
 sg:NC
 e:Int
 s:Int
def BP (d:DF):List Value:=[.int .i64 d.kind,.int .i64 d.param,.int .i64 d.signer,.string (aK d.fi),.string (aK d.la)]
def hU (l:List DF):List Value:=l.flatMap BP
theorem EM (d:DF):(BP d).length=5:=rfl
theorem qV (l:List DF):(hU l).length=l.length*5:=iZ _ 5 EM l
theorem BQ (l:List DF):∀ u ∈ hU l,u.oneCell'=true:=by
 intro u hu
 obtain ⟨c,_,hu⟩:=List.mem_flatMap.1 hu
 simp only [BP,List.mem_cons,List.not_mem_nil,or_false] at hu
 rcases hu with rfl | rfl | rfl | rfl | rfl <;> rfl
def aP (m:MA) (v:Value):List Value:=[.string (aK m.st),.int .i64 m.num,.int .i64 m.day,v,.string (aK m.sg.st),.int .i64 m.sg.kind,.int .i64 m.sg.num,.int .i64 m.sg.iss,.int .i64 m.sg.own,.int .i64 m.sg.key,.int .i64 m.sg.fr,.int .i64 m.sg.un,.int .i64 m.sg.to,.int .i64 m.sg.e,.int .i64 m.sg.s,.int .i64 m.e,.int .i64 m.s]
def d9 (m:DV) (v:Value):List Value:=[.string (aK m.st),.int .i64 m.num,.int .i64 m.day,v,.string (aK m.sg.st),.int .i64 m.sg.kind,.int .i64 m.sg.num,.int .i64 m.sg.iss,.int .i64 m.sg.own,.int .i64 m.sg.key,.int .i64 m.sg.fr,.int .i64 m.sg.un,.int .i64 m.sg.to,.int .i64 m.sg.e,.int .i64 m.sg.s,.int .i64 m.e,.int .i64 m.s]
def kR:LK RV:=⟨103,8,aY,3,1,fun r=>aQ r.ser,fun _ _=>rfl,by decide,by decide,fun a u h x hx=>by
 simp only [aY,List.mem_cons,List.not_mem_nil,or_false] at hx
 rcases hx with rfl | rfl | rfl | rfl | rfl | rfl | rfl | rfl <;> first | exact h | rfl⟩
def kM:LK MA:=⟨80,17,aP,56,11,fun m=>aD m.roots,fun _ _=>rfl,by decide,by decide,fun a u h x hx=>by
 simp only [aP,List.mem_cons,List.not_mem_nil,or_false] at hx
 rcases hx with rfl | rfl | rfl | rfl | rfl | rfl | rfl | rfl | rfl | rfl | rfl | rfl | rfl | rfl | rfl | rfl | rfl <;> first | exact h | rfl⟩
def kD:LK DV:=⟨121,17,d9,177,5,fun m=>hU m.defs,fun _ _=>rfl,by decide,by decide,fun a u h x hx=>by
 simp only [d9,List.mem_cons,List.not_mem_nil,or_false] at hx
 rcases hx with rfl | rfl | rfl | rfl | rfl | rfl | rfl | rfl | rfl | rfl | rfl | rfl | rfl | rfl | rfl | rfl | rfl <;> first | exact h | rfl⟩
theorem RdX.rdV {w:World}{v:Value}{l:List RV} (h:RdX kR w v l):RdV w v l:=by
 obtain ⟨A,n,c,rfl,hn,hnc,hcm,hc⟩:=h.at_
 refine ⟨A,n,c,rfl,hn,hnc,hcm,fun i r hr=>?_⟩
 obtain ⟨b,o,rfl,hb,u,hcell,hrd⟩:=hc i r hr
 have hrd':RdK w 1 u (aQ r.ser):=hrd
 obtain ⟨A',n',c',rfl,_⟩:=id hrd'
 have key:∀ (j:Nat) (x:Value),(aY r (.slice A' n' c'))[j]?=some x->w.cell? ⟨b,o+i*8+j,none⟩=some x:=fun j x hx=>by rw [YM];exact hcell j x hx
 exact ⟨b,o,rfl,hb,A',n',c',key 0 _ rfl,key 1 _ rfl,key 2 _ rfl,key 3 _ rfl,key 4 _ rfl,key 5 _ rfl,key 6 _ rfl,key 7 _ rfl,hrd'.r1⟩
structure ST where
 roots:List NC
 pool:List NC
 ms:List MA
 rs:List RV
 ds:List DV
structure StR (w:World) (s0 s1 s2 s3 s4:SlT) (S:ST):Prop where
 r0:RdN w (slV s0) S.roots
 r1:RdN w (slV s1) S.pool
 r2:RdX kM w (slV s2) S.ms
 r3:RdX kR w (slV s3) S.rs
 r4:RdX kD w (slV s4) S.ds
theorem StR.ext {w w':World}{s0 s1 s2 s3 s4:SlT}{S:ST} (h:StR w s0 s1 s2 s3 s4 S) (e:Ext w w'):StR w' s0 s1 s2 s3 s4 S:=⟨RdK.ext h.r0 e,RdK.ext h.r1 e,h.r2.ext e,h.r3.ext e,h.r4.ext e⟩
structure StO (w:World) (B:Nat) (s0 s1 s2 s3 s4:SlT) (S:ST):Prop where
 o0:aJ w B 56 11 (slV s0) (aD S.roots)
 o1:aJ w B 56 11 (slV s1) (aD S.pool)
 o2:hO kM w B (slV s2) S.ms
 o3:hO kR w B (slV s3) S.rs
 o4:hO kD w B (slV s4) S.ds
theorem StO.ext {w w':World}{B:Nat}{s0 s1 s2 s3 s4:SlT}{S:ST} (h:StO w B s0 s1 s2 s3 s4 S) (e:Ext w w'):StO w' B s0 s1 s2 s3 s4 S:=⟨h.o0.ext e,h.o1.ext e,h.o2.ext e,h.o3.ext e,h.o4.ext e⟩
theorem StO.mono {w:World}{B B':Nat}{s0 s1 s2 s3 s4:SlT}{S:ST} (h:StO w B s0 s1 s2 s3 s4 S) (hB:B'<=B):StO w B' s0 s1 s2 s3 s4 S:=⟨h.o0.mono hB,h.o1.mono hB,h.o2.mono hB,h.o3.mono hB,h.o4.mono hB⟩
theorem StO.rd {w:World}{B:Nat}{s0 s1 s2 s3 s4:SlT}{S:ST} (h:StO w B s0 s1 s2 s3 s4 S):StR w s0 s1 s2 s3 s4 S:=⟨h.o0.rd,h.o1.rd,h.o2.rd,h.o3.rd,h.o4.rd⟩
theorem StO.gbB {w w':World}{B g:Nat}{s0 s1 s2 s3 s4:SlT}{S:ST} (h:StO w B s0 s1 s2 s3 s4 S) (hg:g<B) (e:w.grownBy w' (some g)):StO w' B s0 s1 s2 s3 s4 S :=
 ⟨h.o0.grown e (.inr fun q=>by have:=aZ h.o0 _ q;omega),h.o1.grown e (.inr fun q=>by have:=aZ h.o1 _ q;omega),h.o2.gbB hg e,h.o3.gbB hg e,h.o4.gbB hg e⟩
def aM (s0 s1 s2 s3 s4:SlT):Array Value:=#[.slice s0.1 s0.2.1 s0.2.2,.slice s1.1 s1.2.1 s1.2.2,.slice s2.1 s2.2.1 s2.2.2,.slice s3.1 s3.2.1 s3.2.2,.slice s4.1 s4.2.1 s4.2.2]
theorem bT (s0 s1 s2 s3 s4:SlT):(aM s0 s1 s2 s3 s4).all (·.oneCell')=true:=by simp [aM,Value.oneCell']
theorem aN:(Tryz.prog.info? 75).map (·.size)=some 5:=by kernel_rfl
theorem cP:(Tryz.prog.info? 80).map (·.size)=some 17:=by kernel_rfl
theorem uL:(Tryz.prog.info? 121).map (·.size)=some 17:=by kernel_rfl
theorem aJ.setRowK {α:Type}{K:LK α}{w:World}{B n c i:Nat}{A:Option Addr}{ps:List (α × Value)}{a:α}{u:Value} (ho:aJ w B K.T K.k (.slice A n c) (K.cells ps)) (hi:i<ps.length) :
 ∃ g,A=some ⟨g,0,none⟩/\B<=g/\w.there g (i*K.k) K.k/\n=ps.length/\n<=c/\c<=maxLen/\aJ (w.setCells g (i*K.k) (K.row a u)) B K.T K.k (.slice A n c) (K.cells (ps.set i (a,u))):=by
 obtain ⟨A',n',c',e,hn,hc⟩:=ho
 injection e with e1 e2 e3
 subst e1 e2 e3
 rw [K.cells_len] at hn
 obtain rfl:n=ps.length:=ZD K.pos hn
 rcases hc with ⟨h0,_⟩ | ⟨g,cur,rfl,hB,hg,hnc,hcm,hcs,ht⟩
 · omega
 have hiK:i*K.k+K.k<=c*K.k:=by rw [<- Nat.succ_mul];exact Nat.mul_le_mul_right _ (by omega)
 refine ⟨g,rfl,hB,fun j hj=>⟨?_,by simp [World.frozen?,hg]⟩,rfl,hnc,hcm,?_⟩
 · rw [cell_of_row w g _ cur _ _ hg]
   simp
   omega
 · have e:ps=ps.take i++[ps[i]]++ps.drop (i+1):=by
    rw [YW,List.singleton_append,<- List.drop_eq_getElem_cons hi,List.take_append_drop]
   have e2:ps.set i (a,u)=ps.take i++[(a,u)]++ps.drop (i+1):=by
    rw [List.set_eq_take_append_cons_drop,if_pos hi,YW]
    rfl
   have hcc:cur.toList=K.cells ps++cur.toList.drop (ps.length*K.k):=by rw [<- ht,List.take_append_drop]
   generalize hR:cur.toList.drop (ps.length*K.k)=R at hcc
   have hl:(K.cells (ps.take i)).length=i*K.k:=by rw [K.cells_len,YY,Nat.min_eq_left (Nat.le_of_lt hi)]
   have h':w.heap[g]?=some (.cells (K.cells (ps.take i)++K.row ps[i].1 ps[i].2++(K.cells (ps.drop (i+1))++R)).toArray K.T (0,0)):=by
    rw [hg]
    congr 2
    rw [<- Array.toArray_toList (xs:=cur),hcc]
    congr 1
    conv=>lhs;rw [e,K.cells_app,K.cells_app,K.cells_sing]
    simp only [YW]
   have h2:=lE (K.row a u) (K.cells (ps.take i)) (K.cells (ps.drop (i+1))++R) w g (K.row ps[i].1 ps[i].2) K.T (0,0) h' (by rw [K.len,K.len])
   rw [hl,<- fU] at h2
   have h3:(K.cells (ps.take i)++K.row a u++(K.cells (ps.drop (i+1))++R))=K.cells (ps.set i (a,u))++R:=by
    rw [e2,K.cells_app,K.cells_app,K.cells_sing]
    simp only [YW]
   rw [h3] at h2
   have hls:(K.cells (ps.set i (a,u))).length=ps.length*K.k:=by rw [K.cells_len,List.length_set]
   have hRl:R.length=c*K.k - ps.length*K.k:=by rw [<- hR,List.length_drop,Array.length_toList,hcs]
   have hlc:ps.length*K.k<=c*K.k:=Nat.mul_le_mul_right _ hnc
   refine ⟨_,ps.length,c,rfl,hls.symm,.inr ⟨g,_,rfl,hB,h2,hnc,hcm,?_,?_⟩⟩
   · show (K.cells (ps.set i (a,u))++R).length=c*K.k
     rw [YJ,hls,hRl]
     omega
   · show (K.cells (ps.set i (a,u))++R).take _=_
     rw [<- hls]
     exact List.take_left
theorem LK.cells_one {α:Type}{K:LK α}{ps:List (α × Value)} (h:∀ p ∈ ps,p.2.oneCell'=true):∀ u ∈ K.cells ps,u.oneCell'=true:=by
 intro u hu
 obtain ⟨p,hp,hq⟩:=List.mem_flatMap.1 hu
 exact K.one p.1 p.2 (h p hp) u hq
theorem RdK.oneU {w:World}{k:Nat}{v:Value}{xs:List Value} (h:RdK w k v xs):v.oneCell'=true:=by
 obtain ⟨A,n,c,rfl,_⟩:=h
 rfl
theorem qW {α:Type} (l:List α) (x:α):(l++[x]).set l.length x=l++[x]:=by
 rw [List.set_append_right _ _ (YF _),Nat.sub_self]
 rfl
section
variable {P:Program}{ops:Array Oper}{Q:Exit->Act->World->Prop}{w0:World}{R:Act->World->Prop}
open Gd (dT)
theorem Gd.wpX_midK {o:Oper}{rest:List Oper}{a:Act}{hs:List (Nat × aE)}{d:Nat} (hg:dT ops o a hs) (g i:Nat) (cs:List Value) {ty:TypeId}{x:Operand}{ds:TypeDesc} (hd:o.dst=some d) (hz:Nat.blt d a.tmps.size=true) (ho:o.op=.load ty x) (hx:a.eval x=.pointer (some ⟨g,i,none⟩)) (hn:fK o hs=true)
 (hrow:∀ m:Lt w0,m.1.rangeAt g i cs) (hu:P.underlying ty=some ds) (hdd:ds.isRow=true) (hi:(P.info? ty).map (·.size)=some cs.length) (hr:Gt.wpX Gd.exR P ops Q w0 R [] rest (a.put (some d) (.agg cs.toArray)) hs):Gt.wpX Gd.exR P ops Q w0 R [] (o::rest) a hs :=
 Gd.gF hg (.agg cs.toArray) hd hz (by unfold aV;rw [ho]) hn (fun m K hK=>by
  unfold Oper.wp execOp
  simp only [ho,hx,Sem.run_bind,run_loadAt_mid m.1 g i ty cs ds (hrow m) hu hdd hi,Result.andThen_ok,Sem.run_pure]
  exact hK _ _ (by rw [hd];rfl) ⟨Below.refl _ _,by rw [hd,aW (cG hz)]⟩) hr
end
end Go.Proofs.YtkjplpmogfmhkaaGreatDoor
