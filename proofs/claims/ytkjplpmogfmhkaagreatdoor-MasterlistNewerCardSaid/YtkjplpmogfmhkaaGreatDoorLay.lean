/- Parts Ua Ab Ub Um Ma Mo Uf of the proof. -/
import Derived.Test.YtkjplpmogfmhkaaGreatDoorLaw
import Derived.Test.YtkjplpmogfmhkaaGreatDoorLat
import Derived.Deep.MidRow
import Derived.Test.YtkjplpmogfmhkaaGreatDoorLas
import Derived.Test.YtkjplpmogfmhkaaGreatDoorLau
import Derived.BigQuiet
namespace Go.Proofs.YtkjplpmogfmhkaaGreatDoor
open Go.RowKit
set_option linter.unusedVariables false
set_option maxRecDepth 100000
theorem fJ (g:Nat):∀ (vs:List Value) (i:Nat) (w:World),w.setCells g i vs=rH w g i vs
 | [],i,w=>rfl
 | v::vs,i,w=>fJ g vs (i+1) _
theorem Gb.setCellsU (g:Nat):∀ (vs:List Value) (i:Nat) (w:World),Gb g w (w.setCells g i vs)
 | [],i,w=>Gb.refl _ _
 | v::vs,i,w=>(Gb.set g i w v).tr (Gb.setCellsU g vs (i+1) _)
theorem Rd.k1 {w:World}{v:Value}{xs:List Value} (h:Rd w v xs):RdK w 1 v xs:=by
 obtain ⟨A,n,c,rfl,hn,hr⟩:=h
 exact ⟨A,n,c,rfl,by omega,hr⟩
theorem RdK.r1 {w:World}{v:Value}{xs:List Value} (h:RdK w 1 v xs):Rd w v xs:=by
 obtain ⟨A,n,c,rfl,hn,hr⟩:=h
 exact ⟨A,n,c,rfl,by omega,hr⟩
theorem Own.k1 {w:World}{B:Nat}{e:TypeId}{v:Value}{xs:List Value} (h:Own w B e v xs):aJ w B e 1 v xs:=by
 obtain ⟨A,n,c,rfl,hn,h | ⟨g,cur,rfl,hB,hg,hnc,hcm,hcs,ht⟩⟩:=h
 · exact ⟨A,n,c,rfl,by omega,.inl h⟩
 · exact ⟨_,n,c,rfl,by omega,.inr ⟨g,cur,rfl,hB,hg,hnc,hcm,by omega,by rw [Nat.mul_one];exact ht⟩⟩
structure LK (α:Type) where
 T:TypeId
 k:Nat
 row:α→Value→List Value
 E:TypeId
 ek:Nat
 inn:α→List Value
 len:∀ a u,(row a u).length=k
 pos:0<k
 ne:E≠T
 one:∀ a u,u.oneCell'=true→∀ x ∈ row a u,x.oneCell'=true
section
variable {α:Type}{K:LK α}{w w':World}{B:Nat}{v:Value}{l:List α}{ps:List (α × Value)}
def LK.cells (K:LK α) (ps:List (α × Value)):List Value:=ps.flatMap fun p=>K.row p.1 p.2
theorem LK.cells_len (K:LK α) (ps:List (α × Value)):(K.cells ps).length=ps.length*K.k:=j3 (fun p:α × Value=>K.row p.1 p.2) K.k (fun p=>K.len p.1 p.2) ps
theorem LK.cells_snoc (K:LK α) (ps:List (α × Value)) (a:α) (u:Value):K.cells ps++K.row a u=K.cells (ps++[(a,u)]):=by simp [LK.cells]
theorem LK.cells_app (K:LK α) (ps qs:List (α × Value)):K.cells (ps++qs)=K.cells ps++K.cells qs:=by simp [LK.cells]
theorem LK.cells_sing (K:LK α) (a:α) (u:Value):K.cells [(a,u)]=K.row a u:=by simp [LK.cells]
def RdX (K:LK α) (w:World) (v:Value) (l:List α):Prop:=∃ ps:List (α × Value),ps.map Prod.fst=l∧RdK w K.k v (K.cells ps)∧∀ p ∈ ps,RdK w K.ek p.2 (K.inn p.1)
def fA (K:LK α) (w:World) (B:Nat) (v:Value) (ps:List (α × Value)):Prop:=aJ w B K.T K.k v (K.cells ps)∧∀ p ∈ ps,aJ w B K.E K.ek p.2 (K.inn p.1)
def gZ (K:LK α) (w:World) (B:Nat) (v:Value) (l:List α):Prop:=∃ ps:List (α × Value),ps.map Prod.fst=l∧fA K w B v ps
theorem RdX.ext (h:RdX K w v l) (e:Ext w w'):RdX K w' v l:=by
 obtain ⟨ps,h1,h2,h3⟩:=h
 exact ⟨ps,h1,h2.ext e,fun p hp=>(h3 p hp).ext e⟩
theorem fA.rd (h:fA K w B v ps):RdX K w v (ps.map Prod.fst):=⟨ps,rfl,h.1.rd,fun p hp=>(h.2 p hp).rd⟩
theorem gZ.rd (h:gZ K w B v l):RdX K w v l:=by
 obtain ⟨ps,h1,h2⟩:=h
 subst h1
 exact h2.rd
theorem fA.ext (h:fA K w B v ps) (e:Ext w w'):fA K w' B v ps:=⟨h.1.ext e,fun p hp=>(h.2 p hp).ext e⟩
theorem fA.mono {B':Nat} (h:fA K w B v ps) (hB:B'≤B):fA K w B' v ps:=⟨h.1.mono hB,fun p hp=>(h.2 p hp).mono hB⟩
theorem gZ.ext (h:gZ K w B v l) (e:Ext w w'):gZ K w' B v l:=by
 obtain ⟨ps,h1,h2⟩:=h
 exact ⟨ps,h1,h2.ext e⟩
theorem gZ.mono {B':Nat} (h:gZ K w B v l) (hB:B'≤B):gZ K w B' v l:=by
 obtain ⟨ps,h1,h2⟩:=h
 exact ⟨ps,h1,h2.mono hB⟩
theorem fA.empty (K:LK α) (w:World) (B:Nat) (A:Option Addr):fA K w B (.slice A 0 0) []:=⟨aJ.empty _ _ _ _ _,fun p hp=>(by cases hp)⟩
theorem RdX.nil_ (K:LK α) (w:World) (A:Option Addr):RdX K w (.slice A 0 0) []:=⟨[],rfl,RdK.nil_ _ _ _,fun p hp=>(by cases hp)⟩
theorem fA.gb {g T:Nat}{cs:Array Value}{fr:Nat × Nat} (h:fA K w B v ps) (hg:w.heap[g]?=some (.cells cs T fr)) (h1:K.T≠T) (h2:K.E≠T) (e:w.grownBy w' (some g)):fA K w' B v ps :=
 ⟨h.1.grown e (.inr (h.1.row_blk hg h1)),fun p hp=>(h.2 p hp).grown e (.inr ((h.2 p hp).row_blk hg h2))⟩
theorem gZ.gb {g T:Nat}{cs:Array Value}{fr:Nat × Nat} (h:gZ K w B v l) (hg:w.heap[g]?=some (.cells cs T fr)) (h1:K.T≠T) (h2:K.E≠T) (e:w.grownBy w' (some g)):gZ K w' B v l:=by
 obtain ⟨ps,q1,q2⟩:=h
 exact ⟨ps,q1,q2.gb hg h1 h2 e⟩
theorem fA.gbB {g:Nat} (h:fA K w B v ps) (hg:g<B) (e:w.grownBy w' (some g)):fA K w' B v ps :=
 ⟨h.1.grown e (.inr fun q=>by have:=aT h.1 _ q;omega),fun p hp=>(h.2 p hp).grown e (.inr fun q=>by have:=aT (h.2 p hp) _ q;omega)⟩
theorem gZ.gbB {g:Nat} (h:gZ K w B v l) (hg:g<B) (e:w.grownBy w' (some g)):gZ K w' B v l:=by
 obtain ⟨ps,q1,q2⟩:=h
 exact ⟨ps,q1,q2.gbB hg e⟩
theorem fA.grow {B2 e2 k2:Nat}{v2:Value}{x2:List Value} (h:fA K w B v ps) (o:aJ w B2 e2 k2 v2 x2) (h1:e2≠K.T) (h2:e2≠K.E) (e:w.grownBy w' (aL v2)):fA K w' B v ps :=
 ⟨h.1.grown e (o.row_ne h.1 h1),fun p hp=>(h.2 p hp).grown e (o.row_ne (h.2 p hp) h2)⟩
theorem gZ.grow {B2 e2 k2:Nat}{v2:Value}{x2:List Value} (h:gZ K w B v l) (o:aJ w B2 e2 k2 v2 x2) (h1:e2≠K.T) (h2:e2≠K.E) (e:w.grownBy w' (aL v2)):gZ K w' B v l:=by
 obtain ⟨ps,q1,q2⟩:=h
 exact ⟨ps,q1,q2.grow o h1 h2 e⟩
theorem fA.app {v' u:Value}{a:α} (h:fA K w B v ps) (hi:aJ w B K.E K.ek u (K.inn a)) (o:aJ w' B K.T K.k v' (K.cells ps++K.row a u)) (g:w.grownBy w' (aL v)):fA K w' B v' (ps++[(a,u)]):=by
 refine ⟨by rw [← K.cells_snoc];exact o,fun p hp=>?_⟩
 rcases List.mem_append.1 hp with hp | hp
 · exact (h.2 p hp).grown g (h.1.row_ne (h.2 p hp) K.ne.symm)
 · rw [List.mem_singleton.1 hp]
   exact hi.grown g (h.1.row_ne hi K.ne.symm)
theorem fA.setAt {A:Option Addr}{n c i:Nat}{a:α}{u:Value} (h:fA K w B (.slice A n c) ps) (hu:aJ w B K.E K.ek u (K.inn a)) (hi:i<ps.length) :
 ∃ g,A=some ⟨g,0,none⟩∧B≤g∧w.there g (i*K.k) K.k∧g<w.heap.size∧(∃ cs,w.heap[g]?=some (.cells cs K.T (0,0)))∧fA K (w.setCells g (i*K.k) (K.row a u)) B (.slice A n c) (ps.set i (a,u)):=by
 have ho:=h.1
 obtain ⟨A',n',c',e,hn,hc⟩:=ho
 injection e with e1 e2 e3
 subst e1 e2 e3
 rw [K.cells_len] at hn
 obtain rfl:n=ps.length:=VP K.pos hn
 rcases hc with ⟨h0,_⟩ | ⟨g,cur,rfl,hB,hg,hnc,hcm,hcs,ht⟩
 · omega
 have hiK:i*K.k+K.k≤c*K.k:=by rw [← Nat.succ_mul];exact Nat.mul_le_mul_right _ (by omega)
 have hgb:=Gb.setCellsU g (K.row a u) (i*K.k) w
 refine ⟨g,rfl,hB,fun j hj=>⟨?_,by simp [World.frozen?,hg]⟩,a9 hg,⟨_,hg⟩,?_,fun p hp=>?_⟩
 · rw [cell_of_row w g _ cur _ _ hg]
   simp
   omega
 · have e:ps=ps.take i++[ps[i]]++ps.drop (i+1):=by
    rw [VF,List.singleton_append,← List.drop_eq_getElem_cons hi,List.take_append_drop]
   have e2:ps.set i (a,u)=ps.take i++[(a,u)]++ps.drop (i+1):=by
    rw [List.set_eq_take_append_cons_drop,if_pos hi,VF]
    rfl
   have hcc:cur.toList=K.cells ps++cur.toList.drop (ps.length*K.k):=by rw [← ht,List.take_append_drop]
   generalize hR:cur.toList.drop (ps.length*K.k)=R at hcc
   have hl:(K.cells (ps.take i)).length=i*K.k:=by rw [K.cells_len,VL,Nat.min_eq_left (Nat.le_of_lt hi)]
   have h':w.heap[g]?=some (.cells (K.cells (ps.take i)++K.row ps[i].1 ps[i].2++(K.cells (ps.drop (i+1))++R)).toArray K.T (0,0)):=by
    rw [hg]
    congr 2
    rw [← Array.toArray_toList (xs:=cur),hcc]
    congr 1
    conv=>lhs;rw [e,K.cells_app,K.cells_app,K.cells_sing]
    simp only [VF]
   have h2:=jZ (K.row a u) (K.cells (ps.take i)) (K.cells (ps.drop (i+1))++R) w g (K.row ps[i].1 ps[i].2) K.T (0,0) h' (by rw [K.len,K.len])
   rw [hl,← fJ] at h2
   have h3:(K.cells (ps.take i)++K.row a u++(K.cells (ps.drop (i+1))++R))=K.cells (ps.set i (a,u))++R:=by
    rw [e2,K.cells_app,K.cells_app,K.cells_sing]
    simp only [VF]
   rw [h3] at h2
   have hls:(K.cells (ps.set i (a,u))).length=ps.length*K.k:=by rw [K.cells_len,List.length_set]
   have hRl:R.length=c*K.k - ps.length*K.k:=by rw [← hR,List.length_drop,Array.length_toList,hcs]
   have hlc:ps.length*K.k≤c*K.k:=Nat.mul_le_mul_right _ hnc
   refine ⟨_,ps.length,c,rfl,hls.symm,.inr ⟨g,_,rfl,hB,h2,hnc,hcm,?_,?_⟩⟩
   · show (K.cells (ps.set i (a,u))++R).length=c*K.k
     rw [V5,hls,hRl]
     omega
   · show (K.cells (ps.set i (a,u))++R).take _=_
     rw [← hls]
     exact List.take_left
 · rcases List.mem_or_eq_of_mem_set hp with hp | rfl
   · exact (h.2 p hp).grown hgb (.inr ((h.2 p hp).row_blk hg K.ne))
   · exact hu.grown hgb (.inr (hu.row_blk hg K.ne))
theorem RdX.at_ (h:RdX K w v l):∃ A n c,v=.slice A n c∧n=l.length∧n≤c∧c≤maxLen∧∀ (i:Nat) (a:α),l[i]?=some a→∃ b o,A=some ⟨b,o,none⟩∧b<w.heap.size∧∃ u,(∀ (j:Nat) (x:Value),(K.row a u)[j]?=some x→w.cell? ⟨b,o+(i*K.k+j),none⟩=some x)∧RdK w K.ek u (K.inn a):=by
 obtain ⟨ps,rfl,⟨A,n,c,rfl,hn,hnc,hcm,hc⟩,hi⟩:=h
 rw [K.cells_len] at hn
 obtain rfl:n=ps.length:=VP K.pos hn
 refine ⟨A,_,c,rfl,by rw [List.length_map],hnc,hcm,fun i a ha=>?_⟩
 rw [List.getElem?_map] at ha
 obtain ⟨p,hp,rfl⟩:=Option.map_eq_some_iff.1 ha
 have hil:=(List.getElem?_eq_some_iff.1 hp).1
 obtain ⟨b,o,rfl,hcell⟩:=hc (by omega)
 have key:∀ (j:Nat) (x:Value),(K.row p.1 p.2)[j]?=some x→w.cell? ⟨b,o+(i*K.k+j),none⟩=some x:=fun j x hx=>by
  refine hcell _ _ ?_
  have hj:j<K.k:=by rw [← K.len p.1 p.2];exact (List.getElem?_eq_some_iff.1 hx).1
  have:=mS (fun p:α × Value=>K.row p.1 p.2) K.k (fun p=>K.len p.1 p.2) ps i hil j hj
  rw [V8 hil] at hp
  rw [Option.some.inj hp] at this
  exact this.trans hx
 have hb:b<w.heap.size:=by
  have h0:0<(K.row p.1 p.2).length:=by rw [K.len];exact K.pos
  exact World.block_lt_of_cell? w _ (key 0 _ (V8 h0))
 exact ⟨b,o,rfl,hb,p.2,key,hi p (VD hp)⟩
end
def fG (r:RV) (v:Value):List Value:=[.string (aI r.st),.int .i64 r.num,.int .i64 r.day,.int .i64 r.nxt,v,.int .i64 r.iss,.int .i64 r.e,.int .i64 r.s]
structure MA where
 st:List UInt8
 num:Int
 day:Int
 roots:List NC
 sg:NC
 e:Int
 s:Int
structure DF where
 kind:Int
 param:Int
 signer:Int
 fi:List UInt8
 la:List UInt8
structure DV where
 st:List UInt8
 num:Int
 day:Int
 defs:List DF
 sg:NC
 e:Int
 s:Int
def zP (d:DF):List Value:=[.int .i64 d.kind,.int .i64 d.param,.int .i64 d.signer,.string (aI d.fi),.string (aI d.la)]
def iA (l:List DF):List Value:=l.flatMap zP
theorem CU (d:DF):(zP d).length=5:=rfl
theorem qB (l:List DF):(iA l).length=l.length*5:=j3 _ 5 CU l
theorem zQ (l:List DF):∀ u ∈ iA l,u.oneCell'=true:=by
 intro u hu
 obtain ⟨c,_,hu⟩:=List.mem_flatMap.1 hu
 simp only [zP,List.mem_cons,List.not_mem_nil,or_false] at hu
 rcases hu with rfl | rfl | rfl | rfl | rfl <;> rfl
def aB (m:MA) (v:Value):List Value:=[.string (aI m.st),.int .i64 m.num,.int .i64 m.day,v,.string (aI m.sg.st),.int .i64 m.sg.kind,.int .i64 m.sg.num,.int .i64 m.sg.iss,.int .i64 m.sg.own,.int .i64 m.sg.key,.int .i64 m.sg.fr,.int .i64 m.sg.un,.int .i64 m.sg.to,.int .i64 m.sg.e,.int .i64 m.sg.s,.int .i64 m.e,.int .i64 m.s]
def cP (m:DV) (v:Value):List Value:=[.string (aI m.st),.int .i64 m.num,.int .i64 m.day,v,.string (aI m.sg.st),.int .i64 m.sg.kind,.int .i64 m.sg.num,.int .i64 m.sg.iss,.int .i64 m.sg.own,.int .i64 m.sg.key,.int .i64 m.sg.fr,.int .i64 m.sg.un,.int .i64 m.sg.to,.int .i64 m.sg.e,.int .i64 m.sg.s,.int .i64 m.e,.int .i64 m.s]
def kR:LK RV:=⟨103,8,fG,3,1,fun r=>bC r.ser,fun _ _=>rfl,by decide,by decide,fun a u h x hx=>by
 simp only [fG,List.mem_cons,List.not_mem_nil,or_false] at hx
 rcases hx with rfl | rfl | rfl | rfl | rfl | rfl | rfl | rfl <;> first | exact h | rfl⟩
def kM:LK MA:=⟨80,17,aB,56,11,fun m=>aA m.roots,fun _ _=>rfl,by decide,by decide,fun a u h x hx=>by
 simp only [aB,List.mem_cons,List.not_mem_nil,or_false] at hx
 rcases hx with rfl | rfl | rfl | rfl | rfl | rfl | rfl | rfl | rfl | rfl | rfl | rfl | rfl | rfl | rfl | rfl | rfl <;> first | exact h | rfl⟩
def kD:LK DV:=⟨121,17,cP,177,5,fun m=>iA m.defs,fun _ _=>rfl,by decide,by decide,fun a u h x hx=>by
 simp only [cP,List.mem_cons,List.not_mem_nil,or_false] at hx
 rcases hx with rfl | rfl | rfl | rfl | rfl | rfl | rfl | rfl | rfl | rfl | rfl | rfl | rfl | rfl | rfl | rfl | rfl <;> first | exact h | rfl⟩
structure ST where
 roots:List NC
 pool:List NC
 ms:List MA
 rs:List RV
 ds:List DV
structure StR (w:World) (s0 s1 s2 s3 s4:SlT) (S:ST):Prop where
 r0:RdN w (slV s0) S.roots
 r1:RdN w (slV s1) S.pool
 r2:RdX kM w (slV s2) S.ms
 r3:RdX kR w (slV s3) S.rs
 r4:RdX kD w (slV s4) S.ds
theorem StR.ext {w w':World}{s0 s1 s2 s3 s4:SlT}{S:ST} (h:StR w s0 s1 s2 s3 s4 S) (e:Ext w w'):StR w' s0 s1 s2 s3 s4 S:=⟨RdK.ext h.r0 e,RdK.ext h.r1 e,h.r2.ext e,h.r3.ext e,h.r4.ext e⟩
structure StO (w:World) (B:Nat) (s0 s1 s2 s3 s4:SlT) (S:ST):Prop where
 o0:aJ w B 56 11 (slV s0) (aA S.roots)
 o1:aJ w B 56 11 (slV s1) (aA S.pool)
 o2:gZ kM w B (slV s2) S.ms
 o3:gZ kR w B (slV s3) S.rs
 o4:gZ kD w B (slV s4) S.ds
theorem StO.ext {w w':World}{B:Nat}{s0 s1 s2 s3 s4:SlT}{S:ST} (h:StO w B s0 s1 s2 s3 s4 S) (e:Ext w w'):StO w' B s0 s1 s2 s3 s4 S:=⟨h.o0.ext e,h.o1.ext e,h.o2.ext e,h.o3.ext e,h.o4.ext e⟩
theorem StO.mono {w:World}{B B':Nat}{s0 s1 s2 s3 s4:SlT}{S:ST} (h:StO w B s0 s1 s2 s3 s4 S) (hB:B'≤B):StO w B' s0 s1 s2 s3 s4 S:=⟨h.o0.mono hB,h.o1.mono hB,h.o2.mono hB,h.o3.mono hB,h.o4.mono hB⟩
theorem StO.rd {w:World}{B:Nat}{s0 s1 s2 s3 s4:SlT}{S:ST} (h:StO w B s0 s1 s2 s3 s4 S):StR w s0 s1 s2 s3 s4 S:=⟨h.o0.rd,h.o1.rd,h.o2.rd,h.o3.rd,h.o4.rd⟩
theorem StO.gbB {w w':World}{B g:Nat}{s0 s1 s2 s3 s4:SlT}{S:ST} (h:StO w B s0 s1 s2 s3 s4 S) (hg:g<B) (e:w.grownBy w' (some g)):StO w' B s0 s1 s2 s3 s4 S :=
 ⟨h.o0.grown e (.inr fun q=>by have:=aT h.o0 _ q;omega),h.o1.grown e (.inr fun q=>by have:=aT h.o1 _ q;omega),h.o2.gbB hg e,h.o3.gbB hg e,h.o4.gbB hg e⟩
def bD (s0 s1 s2 s3 s4:SlT):Array Value:=#[.slice s0.1 s0.2.1 s0.2.2,.slice s1.1 s1.2.1 s1.2.2,.slice s2.1 s2.2.1 s2.2.2,.slice s3.1 s3.2.1 s3.2.2,.slice s4.1 s4.2.1 s4.2.2]
theorem eG (s0 s1 s2 s3 s4:SlT):(bD s0 s1 s2 s3 s4).all (·.oneCell')=true:=by simp [bD,Value.oneCell']
theorem aY:(Tryz.prog.info? 75).map (·.size)=some 5:=by kernel_rfl
theorem aN:(Tryz.prog.info? 80).map (·.size)=some 17:=by kernel_rfl
theorem tO:(Tryz.prog.info? 121).map (·.size)=some 17:=by kernel_rfl
theorem aJ.setRowK {α:Type}{K:LK α}{w:World}{B n c i:Nat}{A:Option Addr}{ps:List (α × Value)}{a:α}{u:Value} (ho:aJ w B K.T K.k (.slice A n c) (K.cells ps)) (hi:i<ps.length) :
 ∃ g,A=some ⟨g,0,none⟩∧B≤g∧w.there g (i*K.k) K.k∧n=ps.length∧n≤c∧c≤maxLen∧aJ (w.setCells g (i*K.k) (K.row a u)) B K.T K.k (.slice A n c) (K.cells (ps.set i (a,u))):=by
 obtain ⟨A',n',c',e,hn,hc⟩:=ho
 injection e with e1 e2 e3
 subst e1 e2 e3
 rw [K.cells_len] at hn
 obtain rfl:n=ps.length:=VP K.pos hn
 rcases hc with ⟨h0,_⟩ | ⟨g,cur,rfl,hB,hg,hnc,hcm,hcs,ht⟩
 · omega
 have hiK:i*K.k+K.k≤c*K.k:=by rw [← Nat.succ_mul];exact Nat.mul_le_mul_right _ (by omega)
 refine ⟨g,rfl,hB,fun j hj=>⟨?_,by simp [World.frozen?,hg]⟩,rfl,hnc,hcm,?_⟩
 · rw [cell_of_row w g _ cur _ _ hg]
   simp
   omega
 · have e:ps=ps.take i++[ps[i]]++ps.drop (i+1):=by
    rw [VF,List.singleton_append,← List.drop_eq_getElem_cons hi,List.take_append_drop]
   have e2:ps.set i (a,u)=ps.take i++[(a,u)]++ps.drop (i+1):=by
    rw [List.set_eq_take_append_cons_drop,if_pos hi,VF]
    rfl
   have hcc:cur.toList=K.cells ps++cur.toList.drop (ps.length*K.k):=by rw [← ht,List.take_append_drop]
   generalize hR:cur.toList.drop (ps.length*K.k)=R at hcc
   have hl:(K.cells (ps.take i)).length=i*K.k:=by rw [K.cells_len,VL,Nat.min_eq_left (Nat.le_of_lt hi)]
   have h':w.heap[g]?=some (.cells (K.cells (ps.take i)++K.row ps[i].1 ps[i].2++(K.cells (ps.drop (i+1))++R)).toArray K.T (0,0)):=by
    rw [hg]
    congr 2
    rw [← Array.toArray_toList (xs:=cur),hcc]
    congr 1
    conv=>lhs;rw [e,K.cells_app,K.cells_app,K.cells_sing]
    simp only [VF]
   have h2:=jZ (K.row a u) (K.cells (ps.take i)) (K.cells (ps.drop (i+1))++R) w g (K.row ps[i].1 ps[i].2) K.T (0,0) h' (by rw [K.len,K.len])
   rw [hl,← fJ] at h2
   have h3:(K.cells (ps.take i)++K.row a u++(K.cells (ps.drop (i+1))++R))=K.cells (ps.set i (a,u))++R:=by
    rw [e2,K.cells_app,K.cells_app,K.cells_sing]
    simp only [VF]
   rw [h3] at h2
   have hls:(K.cells (ps.set i (a,u))).length=ps.length*K.k:=by rw [K.cells_len,List.length_set]
   have hRl:R.length=c*K.k - ps.length*K.k:=by rw [← hR,List.length_drop,Array.length_toList,hcs]
   have hlc:ps.length*K.k≤c*K.k:=Nat.mul_le_mul_right _ hnc
   refine ⟨_,ps.length,c,rfl,hls.symm,.inr ⟨g,_,rfl,hB,h2,hnc,hcm,?_,?_⟩⟩
   · show (K.cells (ps.set i (a,u))++R).length=c*K.k
     rw [V5,hls,hRl]
     omega
   · show (K.cells (ps.set i (a,u))++R).take _=_
     rw [← hls]
     exact List.take_left
theorem LK.cells_one {α:Type}{K:LK α}{ps:List (α × Value)} (h:∀ p ∈ ps,p.2.oneCell'=true):∀ u ∈ K.cells ps,u.oneCell'=true:=by
 intro u hu
 obtain ⟨p,hp,hq⟩:=List.mem_flatMap.1 hu
 exact K.one p.1 p.2 (h p hp) u hq
theorem RdK.oneU {w:World}{k:Nat}{v:Value}{xs:List Value} (h:RdK w k v xs):v.oneCell'=true:=by
 obtain ⟨A,n,c,rfl,_⟩:=h
 rfl
theorem CV {α:Type} (l:List α) (x:α):(l++[x]).set l.length x=l++[x]:=by
 rw [List.set_append_right _ _ (UX _),Nat.sub_self]
 rfl
section
variable {P:Program}{ops:Array Oper}{Q:Exit→Act→World→Prop}{w0:World}{R:Act→World→Prop}
open Go.Proofs.YtkjplpmogfmhkaaGreatDoor.Gd (cN)
theorem Gd.wpX_midK {o:Oper}{rest:List Oper}{a:Act}{hs:List (Nat × aE)}{d:Nat} (hg:cN ops o a hs) (g i:Nat) (cs:List Value) {ty:TypeId}{x:Operand}{ds:TypeDesc} (hd:o.dst=some d) (hz:Nat.blt d a.tmps.size=true) (ho:o.op=.load ty x) (hx:a.eval x=.pointer (some ⟨g,i,none⟩)) (hn:dQ o hs=true)
 (hrow:∀ m:Lt w0,m.1.rangeAt g i cs) (hu:P.underlying ty=some ds) (hdd:ds.isRow=true) (hi:(P.info? ty).map (·.size)=some cs.length) (hr:Gd.wpX P ops Q w0 R rest (a.put (some d) (.agg cs.toArray)) hs):Gd.wpX P ops Q w0 R (o::rest) a hs :=
 Gd.fO hg (.agg cs.toArray) hd hz (by unfold aP;rw [ho]) hn (fun m K hK=>by
  unfold Oper.wp execOp
  simp only [ho,hx,Sem.run_bind,run_loadAt_mid m.1 g i ty cs ds (hrow m) hu hdd hi,Result.andThen_ok,Sem.run_pure]
  exact hK _ _ (by rw [hd];rfl) ⟨Below.refl _ _,by rw [hd,aM (bH hz)]⟩) hr
end
def fH (out:List NC) (c:NC):List NC:=if c ∈ out then out else out++[c]
def fY (out l:List NC):List NC:=l.foldl fH out
def iN (S:ST):List NC:=S.ms.foldl (fun out m=>fY out m.roots) (fY [] S.roots)
theorem JZ (out:List NC) {l:List NC}{y:NC}{k:Nat} (h:l[k]?=some y):fY out (l.take (k+1))=fH (fY out (l.take k)) y:=by
 unfold fY
 rw [iM h,List.foldl_append]
 rfl
theorem N1 {out l:List NC}{c:NC} (h:c ∈ fY out l):c ∈ out ∨ c ∈ l:=by
 unfold fY at h
 induction l generalizing out with
 | nil=>exact .inl h
 | cons x l ih =>
   rcases ih h with h | h
   · unfold fH at h
     split at h
     · exact .inl h
     · rcases List.mem_append.1 h with h | h
       · exact .inl h
       · rw [List.mem_singleton.1 h];exact .inr VM
   · exact .inr (VQ _ h)
theorem qC (out l:List NC):(fY out l).length≤out.length+l.length:=by
 unfold fY
 induction l generalizing out with
 | nil=>exact UX _
 | cons x l ih =>
   have h:=ih (fH out x)
   have h2:(fH out x).length≤out.length+1:=by
    unfold fH
    split
    · omega
    · rw [V5];exact UX _
   rw [List.foldl_cons,VC]
   omega
theorem I0 {out l:List NC} (h:smL out) (k:smL l):smL (fY out l):=fun c hc=>(N1 hc).elim (h c) (k c)
structure StB (S:ST):Prop where
 r:smL S.roots
 p:smL S.pool
 m:∀ x ∈ S.ms,smL x.roots∧x.roots.length≤10000
 s:∀ x ∈ S.rs,x.ser.length≤10000
 d:∀ x ∈ S.ds,x.defs.length≤10000
 lr:S.roots.length≤10000
 lp:S.pool.length≤10000
 lm:S.ms.length≤20
 ls:S.rs.length≤10000
 ld:S.ds.length≤10000
theorem vR:∀ (ms:List MA) (out:List NC),smL out→(∀ x ∈ ms,smL x.roots)→smL (ms.foldl (fun out m=>fY out m.roots) out)
 | [],out,h,_=>h
 | m::ms,out,h,k=>vR ms _ (I0 h (k m VM)) fun x hx=>k x (VQ _ hx)
theorem mU:∀ (ms:List MA) (out:List NC),(∀ x ∈ ms,x.roots.length≤10000)→(ms.foldl (fun out m=>fY out m.roots) out).length≤out.length+ms.length*10000
 | [],out,_=>by simp
 | m::ms,out,k=>by
   have h:=mU ms (fY out m.roots) fun x hx=>k x (VQ _ hx)
   have h2:=qC out m.roots
   have h3:=k m VM
   rw [List.foldl_cons,VC]
   omega
theorem StB.roots {S:ST} (h:StB S):smL (iN S):=vR _ _ (I0 (fun c hc=>(by cases hc)) h.r) fun x hx=>(h.m x hx).1
theorem StB.rlen {S:ST} (h:StB S):(iN S).length≤210000:=by
 have h1:=mU S.ms (fY [] S.roots) fun x hx=>(h.m x hx).2
 have h2:=qC [] S.roots
 have h3:=h.lr
 have h4:=h.lm
 unfold iN
 have h5:S.ms.length*10000≤20*10000:=Nat.mul_le_mul_right _ h4
 rw [VA] at h2
 omega
def lW (l:List NC):Int:=if l.length<1 ∨ 16<l.length then 72 else match l.find? (fun c=>decide (ckN c≠0)) with
 | some c=>ckN c
 | none=>if (l.all rtN)=true then 0 else 61
def sgE (c:NC) (st:List UInt8):Int:=if ckN c≠0 then ckN c else if c.kind≠4 then 61 else if c.st≠st then 68 else 0
def ckM (m:MA):Int:=if ¬ cM m.st then 60 else if ¬ lE m.num then 3 else if ¬ (0≤m.day∧m.day≤73048) then 8 else if lW m.roots≠0 then lW m.roots else sgE m.sg m.st
theorem zR {l:List NC} (h:lW l=0):(1≤l.length∧l.length≤16)∧∀ c ∈ l,ckN c=0∧rtN c=true:=by
 unfold lW at h
 split at h
 · cases h
 rename_i h1
 split at h
 · rename_i c hc
   have:=List.find?_some hc
   exact absurd h (of_decide_eq_true this)
 rename_i h2
 split at h
 · rename_i h3
   refine ⟨by omega,fun c hc=>⟨?_,List.all_eq_true.1 h3 c hc⟩⟩
   have:=List.find?_eq_none.1 h2 c hc
   simpa using this
 · cases h
theorem FI {m:MA} (h:ckM m=0):cM m.st∧lE m.num∧(0≤m.day∧m.day≤73048)∧lW m.roots=0∧sgE m.sg m.st=0:=by
 unfold ckM at h
 split at h
 · cases h
 rename_i h1
 split at h
 · cases h
 rename_i h2
 split at h
 · cases h
 rename_i h3
 split at h
 · rename_i h4;exact absurd h h4
 rename_i h4
 exact ⟨Decidable.not_not.1 h1,Decidable.not_not.1 h2,Decidable.not_not.1 h3,Decidable.not_not.1 h4,h⟩
def eZ (m:MA):Nd:=.mk 49 [] (bA 19 m.st::bA 130 (be4 m.num)::bA 134 (be3 m.day)::m.roots.map eK)
def dS (m:MA):List UInt8:=cA 4 [eZ m]
def byM (m:MA):List UInt8:=if ckM m=0 then dS m else []
theorem yE (m:MA):lU 4 [eZ m]:=by
 refine dJ (EU (by decide) (by decide) (by decide) (by decide) ?_) (mM _)
 refine dJ (jX (by decide) (by decide) (by decide) (by decide)) ?_
 refine dJ (jX (by decide) (by decide) (by decide) (by decide)) ?_
 refine dJ (jX (by decide) (by decide) (by decide) (by decide)) ?_
 intro t ht
 obtain ⟨c,_,rfl⟩:=List.mem_map.1 ht
 exact MD c _ (List.mem_singleton.2 rfl)
theorem yF:∀ l:List NC,bW 3 (l.map eK)=l.length*10
 | []=>rfl
 | c::l=>by
   have h:=yF l
   have h1:bW 3 [eK c]=10:=rfl
   have e:bW 3 ((c::l).map eK)=bW 3 [eK c]+bW 3 (l.map eK):=by
    show ((eK c::l.map eK).map _).sum=([eK c].map _).sum+((l.map eK).map _).sum
    simp
   rw [e,h1,h,VC]
   omega
theorem oZ {m:MA} (h:m.roots.length≤16):bW 4 [eZ m]≤256:=by
 have e:bW 4 [eZ m]=1+(3+bW 3 (m.roots.map eK)):=by
  show ([eZ m].map _).sum=1+(3+((m.roots.map eK).map _).sum)
  simp [eZ,bA,Nd.kids,bW]
  omega
 rw [e,yF]
 omega
theorem yG:∀ l:List NC,(∀ c ∈ l,c.st.length≤3)→iE 3 (l.map eK)≤l.length*37
 | [],_=>UX _
 | c::l,k=>by
   have h:=yG l fun x hx=>k x (VQ _ hx)
   have h0:=k c VM
   have h1:iE 3 [eK c]=c.st.length+34:=by
    simp only [iE,eK,eJ,bA,oJ,Nd.val,Nd.kids,List.map_cons,List.map_nil,List.sum_cons,List.sum_nil,V5,VA,VC,be4,be3]
    omega
   have e:iE 3 ((c::l).map eK)=iE 3 [eK c]+iE 3 (l.map eK):=by
    show ((eK c::l.map eK).map _).sum=([eK c].map _).sum+((l.map eK).map _).sum
    simp
   rw [e,h1,VC]
   omega
theorem mV {m:MA} (h:ckM m=0):(cA 4 [eZ m]).length≤4096:=by
 obtain ⟨h1,_,_,h4,_⟩:=FI h
 obtain ⟨⟨_,h5⟩,h6⟩:=zR h4
 have h1:=h1.1.2
 have k:=nJ 4 [eZ m]
 have c1:=oZ (m:=m) h5
 have v1:=yG m.roots fun c hc=>(kQ (h6 c hc).1).1.1.2
 have e:iE 4 [eZ m]=m.st.length+7+iE 3 (m.roots.map eK):=by
  show ([eZ m].map _).sum=m.st.length+7+((m.roots.map eK).map _).sum
  simp [eZ,bA,Nd.kids,Nd.val,iE,be4,be3]
  omega
 omega
def maV (m:MA) (v:Value):Value:=.agg (aB m v).toArray
def aX (w:World) (g:Nat) (m:MA) (v:Value):Prop:=w.heap[g]?=some (.cells (aB m v).toArray 80 (0,0))
section
variable {w w':World}{g:Nat}{m:MA}{v:Value}
theorem aX.lt (h:aX w g m v):g<w.heap.size:=a9 h
theorem aX.ext (h:aX w g m v) (e:Ext w w'):aX w' g m v:=(e.block g h.lt).trans h
theorem aX.row (h:aX w g m v):w.heap[g]?=some (.cells (aB m v).toArray 80 (0,0)):=h
theorem aX.c0 (h:aX w g m v):w.cell? ⟨g,0,none⟩=some (.string (aI m.st)):=by rw [cell_of_row w g 0 _ _ _ h];rfl
theorem aX.c1 (h:aX w g m v):w.cell? ⟨g,1,none⟩=some (.int .i64 m.num):=by rw [cell_of_row w g 1 _ _ _ h];rfl
theorem aX.c2 (h:aX w g m v):w.cell? ⟨g,2,none⟩=some (.int .i64 m.day):=by rw [cell_of_row w g 2 _ _ _ h];rfl
theorem aX.c3 (h:aX w g m v):w.cell? ⟨g,3,none⟩=some (v):=by rw [cell_of_row w g 3 _ _ _ h];rfl
theorem aX.c4 (h:aX w g m v):w.cell? ⟨g,4,none⟩=some (.string (aI m.sg.st)):=by rw [cell_of_row w g 4 _ _ _ h];rfl
theorem aX.c5 (h:aX w g m v):w.cell? ⟨g,5,none⟩=some (.int .i64 m.sg.kind):=by rw [cell_of_row w g 5 _ _ _ h];rfl
theorem aX.c6 (h:aX w g m v):w.cell? ⟨g,6,none⟩=some (.int .i64 m.sg.num):=by rw [cell_of_row w g 6 _ _ _ h];rfl
theorem aX.c7 (h:aX w g m v):w.cell? ⟨g,7,none⟩=some (.int .i64 m.sg.iss):=by rw [cell_of_row w g 7 _ _ _ h];rfl
theorem aX.c8 (h:aX w g m v):w.cell? ⟨g,8,none⟩=some (.int .i64 m.sg.own):=by rw [cell_of_row w g 8 _ _ _ h];rfl
theorem aX.c9 (h:aX w g m v):w.cell? ⟨g,9,none⟩=some (.int .i64 m.sg.key):=by rw [cell_of_row w g 9 _ _ _ h];rfl
theorem aX.c10 (h:aX w g m v):w.cell? ⟨g,10,none⟩=some (.int .i64 m.sg.fr):=by rw [cell_of_row w g 10 _ _ _ h];rfl
theorem aX.c11 (h:aX w g m v):w.cell? ⟨g,11,none⟩=some (.int .i64 m.sg.un):=by rw [cell_of_row w g 11 _ _ _ h];rfl
theorem aX.c12 (h:aX w g m v):w.cell? ⟨g,12,none⟩=some (.int .i64 m.sg.to):=by rw [cell_of_row w g 12 _ _ _ h];rfl
theorem aX.c13 (h:aX w g m v):w.cell? ⟨g,13,none⟩=some (.int .i64 m.sg.e):=by rw [cell_of_row w g 13 _ _ _ h];rfl
theorem aX.c14 (h:aX w g m v):w.cell? ⟨g,14,none⟩=some (.int .i64 m.sg.s):=by rw [cell_of_row w g 14 _ _ _ h];rfl
theorem aX.c15 (h:aX w g m v):w.cell? ⟨g,15,none⟩=some (.int .i64 m.e):=by rw [cell_of_row w g 15 _ _ _ h];rfl
theorem aX.c16 (h:aX w g m v):w.cell? ⟨g,16,none⟩=some (.int .i64 m.s):=by rw [cell_of_row w g 16 _ _ _ h];rfl
theorem iB (w:World) (m:MA) (v:Value):∃ wz,wz=w.alloc (.cells #[.string (aI m.st),.int .i64 m.num,.int .i64 m.day,v,.string (aI m.sg.st),.int .i64 m.sg.kind,.int .i64 m.sg.num,.int .i64 m.sg.iss,.int .i64 m.sg.own,.int .i64 m.sg.key,.int .i64 m.sg.fr,.int .i64 m.sg.un,.int .i64 m.sg.to,.int .i64 m.sg.e,.int .i64 m.sg.s,.int .i64 m.e,.int .i64 m.s] 80)∧Ext w wz∧aX wz w.heap.size m v :=
 ⟨_,rfl,(Below.refl _ _).alloc (UX _) _,aC w _⟩
end
theorem nO {l:List NC} (h:l.length<1 ∨ 16<l.length):lW l=72:=if_pos h
theorem N2 {l:List NC}{c:NC}{k:Nat} (hk:l[k]?=some c) (hc:ckN c≠0) (hn:∀ (j:Nat) (x:NC),j<k→l[j]?=some x→ckN x=0):l.find? (fun c=>decide (ckN c≠0))=some c:=by
 induction l generalizing k with
 | nil=>simp at hk
 | cons y l ih =>
   cases k with
   | zero =>
     have:y=c:=by simpa using hk
     subst this
     rw [List.find?_cons_of_pos (by simpa using hc)]
   | succ k =>
     have h0:=hn 0 y (Nat.zero_lt_succ _) rfl
     rw [List.find?_cons_of_neg (by simpa using h0)]
     exact ih (by simpa using hk) (fun j x hj hx=>hn (j+1) x (Nat.succ_lt_succ hj) (by simpa using hx))
theorem zT {l:List NC}{c:NC}{k:Nat} (h:¬ (l.length<1 ∨ 16<l.length)) (hk:l[k]?=some c) (hc:ckN c≠0) (hn:∀ (j:Nat) (x:NC),j<k→l[j]?=some x→ckN x=0):lW l=ckN c:=by
 unfold lW
 rw [if_neg h,N2 hk hc hn]
theorem yH {l:List NC} (hn:∀ (j:Nat) (x:NC),j<l.length→l[j]?=some x→ckN x=0):l.find? (fun c=>decide (ckN c≠0))=none:=by
 rw [List.find?_eq_none]
 intro x hx
 obtain ⟨j,hj⟩:=List.getElem?_of_mem hx
 have:=hn j x (List.getElem?_eq_some_iff.1 hj).1 hj
 simp [this]
theorem vS {l:List NC}{c:NC}{k:Nat} (h:¬ (l.length<1 ∨ 16<l.length)) (hn:∀ (j:Nat) (x:NC),j<l.length→l[j]?=some x→ckN x=0) (hk:l[k]?=some c) (hc:rtN c=false):lW l=61:=by
 unfold lW
 rw [if_neg h,yH hn]
 refine if_neg fun q=>?_
 rw [List.all_eq_true.1 q c (VD hk)] at hc
 cases hc
theorem qD {l:List NC} (h:¬ (l.length<1 ∨ 16<l.length)) (hn:∀ (j:Nat) (x:NC),j<l.length→l[j]?=some x→ckN x=0) (hr:∀ (j:Nat) (x:NC),j<l.length→l[j]?=some x→rtN x=true):lW l=0:=by
 unfold lW
 rw [if_neg h,yH hn]
 refine if_pos (List.all_eq_true.2 fun x hx=>?_)
 obtain ⟨j,hj⟩:=List.getElem?_of_mem hx
 exact hr j x (List.getElem?_eq_some_iff.1 hj).1 hj
theorem nP {l:List NC}{c:NC}{k:Nat}{P:NC→Prop} (hk:l[k]?=some c) (hc:P c) (hn:∀ (j:Nat) (x:NC),j<k→l[j]?=some x→P x):∀ (j:Nat) (x:NC),j<k+1→l[j]?=some x→P x:=fun j x hj hx=>by
 by_cases h:j=k
 · subst h
   rw [hk] at hx
   rw [← Option.some.inj hx];exact hc
 · exact hn j x (by omega) hx
set_option maxHeartbeats 2000000 in
theorem CW (c:NC) (st:List UInt8) (w:World) (hs:smN c):Calls Tryz.prog 139 #[ncV c,.string (aI st)] w (eP w (.int .i64 (sgE c st))):=by
 obtain ⟨wz,hwz,ez,TZ⟩:=cC w c
 have HC:=VR (fun W=>eL c W hs)
 have HQ:=VR (fX c.st st)
 obtain ⟨K,hK⟩:∃ K,sgE c st=K:=⟨_,rfl⟩
 rw [hK]
 have HK:=VR hK
 clear hK hs
 unfold ncV
 go_enter Tryz.func139,Tryz.ntmps139
 go_wp2_with fail
 rw [← hwz]
 clear hwz
 refine (HC.out _).mono ?_
 rintro e w1 ⟨rfl,b1⟩
 have T1:=TZ.ext b1
 have X1:=VR (ez.tr b1)
 clear TZ ez b1
 by_cases h1:ckN c=0
 case neg =>
  have HR:=VR (show K=ckN c by rw [← HK.out];exact if_pos h1)
  have hb:(ckN c != 0)=true:=by simpa using h1
  clear h1
  go_wp2_with fail
  go_ret
  exact ⟨by first | (rw [HR.out];rfl) | rw [HR.out],X1.out⟩
 rw [h1]
 obtain ⟨t0,t1,t2,t3,t4,t5,t6,t7,t8,t9,t10⟩:=T1.cells
 have hl:=T1.lt
 have H1:=VR h1
 clear h1
 by_cases h2:c.kind=4
 case neg =>
  have HR:=VR (show K=61 by rw [← HK.out];unfold sgE;rw [if_neg (not_not_intro H1.out),if_pos h2])
  have hb:(c.kind != 4)=true:=by simpa using h2
  clear h2
  go_wp2_with fail
  go_ret
  exact ⟨by first | (rw [HR.out];rfl) | rw [HR.out],X1.out⟩
 have hb:(c.kind != 4)=false:=by simpa using h2
 have H2:=VR h2
 clear h2
 by_cases h3:c.st=st
 case neg =>
  have HR:=VR (show K=68 by rw [← HK.out];unfold sgE;rw [if_neg (not_not_intro H1.out),if_neg (not_not_intro H2.out),if_pos h3])
  have hq:((aI c.st).toList == (aI st).toList)=false:=by rw [HQ.out];exact decide_eq_false h3
  have hq2:((aI c.st).toList != (aI st).toList)=true:=by unfold bne;rw [hq];rfl
  clear h3
  go_wp2_with fail
  go_ret
  exact ⟨by first | (rw [HR.out];rfl) | rw [HR.out],X1.out⟩
 have HR:=VR (show K=0 by rw [← HK.out];unfold sgE;rw [if_neg (not_not_intro H1.out),if_neg (not_not_intro H2.out),if_neg (not_not_intro h3)])
 have hq:((aI c.st).toList == (aI st).toList)=true:=by rw [HQ.out];exact decide_eq_true h3
 have hq2:((aI c.st).toList != (aI st).toList)=false:=by unfold bne;rw [hq];rfl
 clear h3
 go_wp2_with fail
 go_ret
 exact ⟨by first | (rw [HR.out];rfl) | rw [HR.out],X1.out⟩
set_option maxHeartbeats 2000000 in
theorem xA (c:NC) (st:List UInt8) (w:World) (hs:smN c):Calls Tryz.prog 143 #[ncV c,.string (aI st)] w (eP w (.int .i64 (sgE c st))):=by
 obtain ⟨wz,hwz,ez,TZ⟩:=cC w c
 have HC:=VR (fun W=>dN c W hs)
 have HQ:=VR (fX c.st st)
 obtain ⟨K,hK⟩:∃ K,sgE c st=K:=⟨_,rfl⟩
 rw [hK]
 have HK:=VR hK
 clear hK hs
 unfold ncV
 go_enter Tryz.func143,Tryz.ntmps143
 go_wp2_with fail
 rw [← hwz]
 clear hwz
 refine (HC.out _).mono ?_
 rintro e w1 ⟨rfl,b1⟩
 have T1:=TZ.ext b1
 have X1:=VR (ez.tr b1)
 clear TZ ez b1
 by_cases h1:ckN c=0
 case neg =>
  have HR:=VR (show K=ckN c by rw [← HK.out];exact if_pos h1)
  have hb:(ckN c != 0)=true:=by simpa using h1
  clear h1
  go_wp2_with fail
  go_ret
  exact ⟨by first | (rw [HR.out];rfl) | rw [HR.out],X1.out⟩
 rw [h1]
 obtain ⟨t0,t1,t2,t3,t4,t5,t6,t7,t8,t9,t10⟩:=T1.cells
 have hl:=T1.lt
 have H1:=VR h1
 clear h1
 by_cases h2:c.kind=4
 case neg =>
  have HR:=VR (show K=61 by rw [← HK.out];unfold sgE;rw [if_neg (not_not_intro H1.out),if_pos h2])
  have hb:(c.kind != 4)=true:=by simpa using h2
  clear h2
  go_wp2_with fail
  go_ret
  exact ⟨by first | (rw [HR.out];rfl) | rw [HR.out],X1.out⟩
 have hb:(c.kind != 4)=false:=by simpa using h2
 have H2:=VR h2
 clear h2
 by_cases h3:c.st=st
 case neg =>
  have HR:=VR (show K=68 by rw [← HK.out];unfold sgE;rw [if_neg (not_not_intro H1.out),if_neg (not_not_intro H2.out),if_pos h3])
  have hq:((aI c.st).toList == (aI st).toList)=false:=by rw [HQ.out];exact decide_eq_false h3
  have hq2:((aI c.st).toList != (aI st).toList)=true:=by unfold bne;rw [hq];rfl
  clear h3
  go_wp2_with fail
  go_ret
  exact ⟨by first | (rw [HR.out];rfl) | rw [HR.out],X1.out⟩
 have HR:=VR (show K=0 by rw [← HK.out];unfold sgE;rw [if_neg (not_not_intro H1.out),if_neg (not_not_intro H2.out),if_neg (not_not_intro h3)])
 have hq:((aI c.st).toList == (aI st).toList)=true:=by rw [HQ.out];exact decide_eq_true h3
 have hq2:((aI c.st).toList != (aI st).toList)=false:=by unfold bne;rw [hq];rfl
 clear h3
 go_wp2_with fail
 go_ret
 exact ⟨by first | (rw [HR.out];rfl) | rw [HR.out],X1.out⟩
theorem zU (x:Int) (w:World):Calls Tryz.prog 142 #[.int .i64 x] w (eP w (.bool (decide (0≤x∧x≤73048)))):=by
 go_enter Tryz.func142,Tryz.ntmps142
 obtain ⟨D,hD⟩:∃ D,decide (0≤x∧x≤73048)=D:=⟨_,rfl⟩
 rw [hD]
 have HDD:=VR hD
 clear hD
 by_cases h0:0≤x
 · have HD:=VR (show D=decide (x≤73048) by rw [← HDD.out];simp [h0])
   go_wp2_with fail
   go_ret
   exact ⟨by rw [HD.out];rfl,Below.refl _ _⟩
 · have HD:=VR (show D=false by rw [← HDD.out];exact decide_eq_false fun q=>h0 q.1)
   have h2:x<0:=by omega
   clear h0
   go_wp2_with fail
   go_ret
   exact ⟨by rw [HD.out];rfl,Below.refl _ _⟩
set_option maxHeartbeats 4000000 in
theorem FJ {v:Value}{l:List NC} (w:World) (hv:RdN w v l) (hs:smL l) (E:dI w 1):Calls Tryz.prog 138 #[v] w (eP w (.int .i64 (lW l))):=by
 obtain ⟨A,n,cp,rfl,hn,hnc,hcm,hel⟩:=hv.at_
 subst hn
 have HEL:=VR hel
 unfold maxLen at hcm
 have HCK:=VR (fun (c:NC) W (h:c ∈ l)=>eL c W (hs c h))
 have HRT:=VR (fun (c:NC) W (h:c ∈ l) (e:Ext w W)=>kK c W (hs c h) (E.below e))
 obtain ⟨K,hK⟩:∃ K,lW l=K:=⟨_,rfl⟩
 rw [hK]
 have HK:=VR hK
 clear hK hs hel hv E
 go_enter Tryz.func138,Tryz.ntmps138
 by_cases h1:l.length<1
 case pos =>
  have HR:=VR (show K=72 by rw [← HK.out];exact nO (.inl h1))
  have hb:((l.length:Int)<1):=by omega
  clear h1
  go_wp2_with fail
  go_ret
  exact ⟨by rw [HR.out];rfl,Below.refl _ _⟩
 have hb1:¬ ((l.length:Int)<1):=by omega
 by_cases h2:16<l.length
 case pos =>
  have HR:=VR (show K=72 by rw [← HK.out];exact nO (.inr h2))
  have hb:((16:Int)<(l.length:Int)):=by omega
  clear h2
  go_wp2_with fail
  go_ret
  exact ⟨by rw [HR.out];rfl,Below.refl _ _⟩
 have hb2:¬ ((16:Int)<(l.length:Int)):=by omega
 have HL:=VR (show ¬ (l.length<1 ∨ 16<l.length) by omega)
 clear h1 h2
 go_wp2_with fail
 clear hb1 hb2
 go_loopw [18] (fun s18 wr=>∃ k:Nat,k≤l.length∧s18=.int .i64 (k:Int)∧Hid (Ext w wr)∧Hid (∀ (j:Nat) (x:NC),j<k→l[j]?=some x→ckN x=0)) (fun s18 _=>l.length - (intOf s18).toNat)
 case atStart=>exact ⟨0,V7 _,rfl,VR (Below.refl _ _),VR (fun j c h=>by omega)⟩
 case round =>
  obtain ⟨k,hk,rfl,X,NO⟩:=hrel
  by_cases hlt:k<l.length
  case pos =>
   obtain ⟨y,hy⟩:∃ y,l[k]?=some y:=⟨_,V8 hlt⟩
   obtain ⟨b,o,rfl,hbl,hc⟩:=HEL.out (by omega)
   have hcy:=hc k y hy
   have HY:=VR hy
   clear hy hc
   have wi1:IntKind.i64.wrap ((k:Int))=(k:Int):=IntWalk.i64_in _ (by omega)
   have zi1:(0:Int)≤(k:Int):=by omega
   have li1:(k:Int)<(l.length:Int):=by omega
   have ti1:((k:Int)).toNat=k:=by omega
   have wk:IntKind.i64.wrap ((k:Int)+1)=(k:Int)+1:=IntWalk.i64_in _ (by omega)
   have q0:=(X.out.cell (p:=⟨b,o+k*11,none⟩) hbl).trans hcy.1
   have q1:=(X.out.cell (p:=⟨b,o+k*11+1,none⟩) hbl).trans hcy.2.1
   have q2:=(X.out.cell (p:=⟨b,o+k*11+2,none⟩) hbl).trans hcy.2.2.1
   have q3:=(X.out.cell (p:=⟨b,o+k*11+3,none⟩) hbl).trans hcy.2.2.2.1
   have q4:=(X.out.cell (p:=⟨b,o+k*11+4,none⟩) hbl).trans hcy.2.2.2.2.1
   have q5:=(X.out.cell (p:=⟨b,o+k*11+5,none⟩) hbl).trans hcy.2.2.2.2.2.1
   have q6:=(X.out.cell (p:=⟨b,o+k*11+6,none⟩) hbl).trans hcy.2.2.2.2.2.2.1
   have q7:=(X.out.cell (p:=⟨b,o+k*11+7,none⟩) hbl).trans hcy.2.2.2.2.2.2.2.1
   have q8:=(X.out.cell (p:=⟨b,o+k*11+8,none⟩) hbl).trans hcy.2.2.2.2.2.2.2.2.1
   have q9:=(X.out.cell (p:=⟨b,o+k*11+9,none⟩) hbl).trans hcy.2.2.2.2.2.2.2.2.2.1
   have q10:=(X.out.cell (p:=⟨b,o+k*11+10,none⟩) hbl).trans hcy.2.2.2.2.2.2.2.2.2.2
   clear hcy
   obtain ⟨wn,hwn,en,TN⟩:=cC wr y
   go_upto_region 6 with fail
   rw [← hwn]
   clear hwn q0 q1 q2 q3 q4 q5 q6 q7 q8 q9 q10
   have XN:=VR (X.out.tr en)
   obtain ⟨t0,t1,t2,t3,t4,t5,t6,t7,t8,t9,t10⟩:=TN.cells
   have hl:=TN.lt
   clear X en TN
   go_wp2_with fail
   refine (HCK.out y _ (VD HY.out)).mono ?_
   rintro e w1 ⟨rfl,b1⟩
   have X1:=VR (XN.out.tr b1)
   clear XN b1
   by_cases h3:ckN y=0
   case neg =>
    have HR:=VR (show K=ckN y by rw [← HK.out];exact zT HL.out HY.out h3 NO.out)
    have hb:(ckN y != 0)=true:=by simpa using h3
    clear h3
    go_wp2_with fail
    go_ret
    exact ⟨by first | (rw [HR.out];rfl) | rw [HR.out],X1.out⟩
   have NO2:=VR (nP (P:=fun c=>ckN c=0) HY.out h3 NO.out)
   rw [h3]
   clear h3 NO
   go_wp2_with fail
   go_roundw
   case rel=>exact ⟨k+1,by omega,by go_num,X1,NO2⟩
   case measure=>simp [intOf];omega
  case neg =>
  obtain rfl:k=l.length:=by omega
  clear hlt hk
  go_wp2_with fail
  have X2:=X
  clear X
  go_loopw [30] (fun s30 wr=>∃ k:Nat,k≤l.length∧s30=.int .i64 (k:Int)∧Hid (Ext w wr)∧Hid (∀ (j:Nat) (x:NC),j<k→l[j]?=some x→rtN x=true)) (fun s30 _=>l.length - (intOf s30).toNat)
  case atStart=>exact ⟨0,V7 _,rfl,X2,VR (fun j c h=>by omega)⟩
  case round =>
   obtain ⟨k,hk,rfl,X,RT⟩:=hrel
   by_cases hlt:k<l.length
   case neg =>
    obtain rfl:k=l.length:=by omega
    have HR:=VR (show K=0 by rw [← HK.out];exact qD HL.out NO.out RT.out)
    go_wp2_with fail
    go_ret
    exact ⟨by first | (rw [HR.out];rfl) | rw [HR.out],X.out⟩
   case pos =>
   obtain ⟨y,hy⟩:∃ y,l[k]?=some y:=⟨_,V8 hlt⟩
   obtain ⟨b,o,rfl,hbl,hc⟩:=HEL.out (by omega)
   have hcy:=hc k y hy
   have HY:=VR hy
   clear hy hc
   have wi2:IntKind.i64.wrap ((k:Int))=(k:Int):=IntWalk.i64_in _ (by omega)
   have zi2:(0:Int)≤(k:Int):=by omega
   have li2:(k:Int)<(l.length:Int):=by omega
   have ti2:((k:Int)).toNat=k:=by omega
   have wk:IntKind.i64.wrap ((k:Int)+1)=(k:Int)+1:=IntWalk.i64_in _ (by omega)
   have q0:=(X.out.cell (p:=⟨b,o+k*11,none⟩) hbl).trans hcy.1
   have q1:=(X.out.cell (p:=⟨b,o+k*11+1,none⟩) hbl).trans hcy.2.1
   have q2:=(X.out.cell (p:=⟨b,o+k*11+2,none⟩) hbl).trans hcy.2.2.1
   have q3:=(X.out.cell (p:=⟨b,o+k*11+3,none⟩) hbl).trans hcy.2.2.2.1
   have q4:=(X.out.cell (p:=⟨b,o+k*11+4,none⟩) hbl).trans hcy.2.2.2.2.1
   have q5:=(X.out.cell (p:=⟨b,o+k*11+5,none⟩) hbl).trans hcy.2.2.2.2.2.1
   have q6:=(X.out.cell (p:=⟨b,o+k*11+6,none⟩) hbl).trans hcy.2.2.2.2.2.2.1
   have q7:=(X.out.cell (p:=⟨b,o+k*11+7,none⟩) hbl).trans hcy.2.2.2.2.2.2.2.1
   have q8:=(X.out.cell (p:=⟨b,o+k*11+8,none⟩) hbl).trans hcy.2.2.2.2.2.2.2.2.1
   have q9:=(X.out.cell (p:=⟨b,o+k*11+9,none⟩) hbl).trans hcy.2.2.2.2.2.2.2.2.2.1
   have q10:=(X.out.cell (p:=⟨b,o+k*11+10,none⟩) hbl).trans hcy.2.2.2.2.2.2.2.2.2.2
   clear hcy
   obtain ⟨wn,hwn,en,TN⟩:=cC wr y
   go_upto_region 13 with fail
   rw [← hwn]
   clear hwn q0 q1 q2 q3 q4 q5 q6 q7 q8 q9 q10
   have XN:=VR (X.out.tr en)
   obtain ⟨t0,t1,t2,t3,t4,t5,t6,t7,t8,t9,t10⟩:=TN.cells
   have hl:=TN.lt
   clear X en TN
   go_wp2_with fail
   refine (HRT.out y _ (VD HY.out) XN.out).mono ?_
   rintro e w1 ⟨rfl,b1⟩
   have X1:=VR (XN.out.tr b1)
   clear XN b1
   cases h3:rtN y with
   | false =>
     have HR:=VR (show K=61 by rw [← HK.out];exact vS HL.out NO.out HY.out h3)
     clear h3
     go_wp2_with fail
     go_ret
     exact ⟨by first | (rw [HR.out];rfl) | rw [HR.out],X1.out⟩
   | true =>
     have RT2:=VR (nP (P:=fun c=>rtN c=true) HY.out h3 RT.out)
     clear h3 RT
     go_wp2_with fail
     go_roundw
     case rel=>exact ⟨k+1,by omega,by go_num,X1,RT2⟩
     case measure=>simp [intOf];omega
set_option maxHeartbeats 4000000 in
theorem vT (m:MA) (v:Value) (w:World) (hv:RdN w v m.roots) (hs:smL m.roots) (hg:smN m.sg) (ht:m.st.length≤maxLen) (E:dI w 1):Calls Tryz.prog 52 #[maV m v] w (eP w (.int .i64 (ckM m))):=by
 obtain ⟨wz,hwz,ez,TZ⟩:=iB w m v
 have HST:=VR (fun W=>rK m.st W ht)
 have HSR:=VR (fun W=>fF m.num W)
 have HRT:=VR (fun W (e:Ext w W)=>FJ W (RdK.ext hv e) hs (E.below e))
 have HSG:=VR (fun W=>CW m.sg m.st W hg)
 obtain ⟨A,n,cp,rfl,-⟩:=hv.at_
 obtain ⟨K,hK⟩:∃ K,ckM m=K:=⟨_,rfl⟩
 rw [hK]
 have HK:=VR hK
 clear hK hv hs hg ht E
 have X:=VR ez
 have c0:=TZ.c0
 have c1:=TZ.c1
 have c2:=TZ.c2
 have c3:=TZ.c3
 have c4:=TZ.c4
 have c5:=TZ.c5
 have c6:=TZ.c6
 have c7:=TZ.c7
 have c8:=TZ.c8
 have c9:=TZ.c9
 have c10:=TZ.c10
 have c11:=TZ.c11
 have c12:=TZ.c12
 have c13:=TZ.c13
 have c14:=TZ.c14
 have cl:=TZ.lt
 have HTZ:=VR TZ
 clear TZ ez
 unfold maV aB
 go_enter Tryz.func52,Tryz.ntmps52
 go_wp2_with fail
 rw [← hwz]
 clear hwz
 refine (HST.out _).mono ?_
 rintro e0 w1 ⟨rfl,rfl⟩
 by_cases h1:cM m.st
 case neg =>
  have HR:=VR (show K=60 by rw [← HK.out];exact if_pos h1)
  rw [decide_eq_false h1]
  clear h1
  go_wp2_with fail
  go_ret
  exact ⟨by first | (rw [HR.out];rfl) | rw [HR.out],X.out⟩
 rw [decide_eq_true h1]
 have H1:=VR h1
 clear h1
 go_wp2_with fail
 refine (HSR.out _).mono ?_
 rintro e0 w1 ⟨rfl,rfl⟩
 by_cases h2:lE m.num
 case neg =>
  have HR:=VR (show K=3 by rw [← HK.out];unfold ckM;rw [if_neg (not_not_intro H1.out),if_pos h2])
  rw [decide_eq_false h2]
  clear h2
  go_wp2_with fail
  go_ret
  exact ⟨by first | (rw [HR.out];rfl) | rw [HR.out],X.out⟩
 rw [decide_eq_true h2]
 have H2:=VR h2
 clear h2
 by_cases h3:0≤m.day
 case neg =>
  have h3:¬ (0≤m.day∧m.day≤73048):=fun q=>h3 q.1
  have HR:=VR (show K=8 by rw [← HK.out];unfold ckM;rw [if_neg (not_not_intro H1.out),if_neg (not_not_intro H2.out),if_pos h3])
  have hb:m.day<0:=by omega
  clear h3
  go_wp2_with fail
  go_ret
  exact ⟨by first | (rw [HR.out];rfl) | rw [HR.out],X.out⟩
 have hb3:¬ m.day<0:=by omega
 by_cases h4:m.day≤73048
 case neg =>
  have HR:=VR (show K=8 by rw [← HK.out];unfold ckM;rw [if_neg (not_not_intro H1.out),if_neg (not_not_intro H2.out),if_pos (fun q=>h4 q.2)])
  have hb:73048<m.day:=by omega
  clear h4
  go_wp2_with fail
  go_ret
  exact ⟨by first | (rw [HR.out];rfl) | rw [HR.out],X.out⟩
 have hb4:¬ 73048<m.day:=by omega
 have H3:=VR (And.intro h3 h4)
 clear h3 h4
 go_wp2_with fail
 clear hb3 hb4
 refine (HRT.out _ X.out).mono ?_
 rintro e0 w1 ⟨rfl,b1⟩
 have X1:=VR (X.out.tr b1)
 have T1:=HTZ.out.ext b1
 clear c0 c1 c2 c3 c4 c5 c6 c7 c8 c9 c10 c11 c12 c13 c14 cl b1
 by_cases h5:lW m.roots=0
 case neg =>
  have HR:=VR (show K=lW m.roots by rw [← HK.out];unfold ckM;rw [if_neg (not_not_intro H1.out),if_neg (not_not_intro H2.out),if_neg (not_not_intro H3.out),if_pos h5])
  have hb:(lW m.roots != 0)=true:=by simpa using h5
  clear h5
  go_wp2_with fail
  go_ret
  exact ⟨by first | (rw [HR.out];rfl) | rw [HR.out],X1.out⟩
 have HR:=VR (show K=sgE m.sg m.st by rw [← HK.out];unfold ckM;rw [if_neg (not_not_intro H1.out),if_neg (not_not_intro H2.out),if_neg (not_not_intro H3.out),if_neg (not_not_intro h5)])
 rw [h5]
 clear h5
 have c0:=T1.c0
 have c4:=T1.c4
 have c5:=T1.c5
 have c6:=T1.c6
 have c7:=T1.c7
 have c8:=T1.c8
 have c9:=T1.c9
 have c10:=T1.c10
 have c11:=T1.c11
 have c12:=T1.c12
 have c13:=T1.c13
 have c14:=T1.c14
 have cl:=T1.lt
 go_wp2_with fail
 refine (HSG.out _).mono ?_
 rintro e0 w2 ⟨rfl,b2⟩
 have X2:=VR (X1.out.tr b2)
 clear b2 c0 c4 c5 c6 c7 c8 c9 c10 c11 c12 c13 c14 cl
 go_wp2_with fail
 go_ret
 exact ⟨by first | (rw [HR.out];rfl) | rw [HR.out],X2.out⟩
set_option maxHeartbeats 8000000 in
theorem oN (m:MA) (v:Value) (w:World) (hv:RdN w v m.roots) (hs:smL m.roots) (hg:smN m.sg) (ht:m.st.length≤maxLen) (E:dI w 0):Calls Tryz.prog 53 #[maV m v] w (eP w (.int .i64 (ckM m))):=by
 obtain ⟨wz,hwz,ez,TZ⟩:=iB w m v
 have HST:=VR (fun W=>oY m.st W ht)
 have HSR:=VR (fun W=>eO m.num W)
 have HDY:=VR (fun W=>zU m.day W)
 have HCK:=VR (fun (c:NC) W (h:c ∈ m.roots)=>dN c W (hs c h))
 have HRT:=VR (fun (c:NC) W (h:c ∈ m.roots) (e:Ext w W)=>jB c W (hs c h) (E.below e))
 have HSG:=VR (fun W=>xA m.sg m.st W hg)
 obtain ⟨A,n,cp,rfl,hn,hnc,hcm,hel⟩:=hv.at_
 subst hn
 have HEL:=VR hel
 unfold maxLen at hcm
 obtain ⟨K,hK⟩:∃ K,ckM m=K:=⟨_,rfl⟩
 rw [hK]
 have HK:=VR hK
 clear hK hv hs hg ht E hel
 have X:=VR ez
 have c0:=TZ.c0
 have c1:=TZ.c1
 have c2:=TZ.c2
 have c3:=TZ.c3
 have cl:=TZ.lt
 have HTZ:=VR TZ
 clear TZ ez
 unfold maV aB
 go_enter Tryz.func53,Tryz.ntmps53
 go_wp2_with fail
 rw [← hwz]
 clear hwz
 refine (HST.out _).mono ?_
 rintro e0 w1 ⟨rfl,rfl⟩
 by_cases h1:cM m.st
 case neg =>
  have HR:=VR (show K=60 by rw [← HK.out];exact if_pos h1)
  rw [decide_eq_false h1]
  clear h1
  go_wp2_with fail
  go_ret
  exact ⟨by first | (rw [HR.out];rfl) | rw [HR.out],X.out⟩
 rw [decide_eq_true h1]
 have H1:=VR h1
 clear h1
 go_wp2_with fail
 refine (HSR.out _).mono ?_
 rintro e0 w1 ⟨rfl,rfl⟩
 by_cases h2:lE m.num
 case neg =>
  have HR:=VR (show K=3 by rw [← HK.out];unfold ckM;rw [if_neg (not_not_intro H1.out),if_pos h2])
  rw [decide_eq_false h2]
  clear h2
  go_wp2_with fail
  go_ret
  exact ⟨by first | (rw [HR.out];rfl) | rw [HR.out],X.out⟩
 rw [decide_eq_true h2]
 have H2:=VR h2
 clear h2
 go_wp2_with fail
 refine (HDY.out _).mono ?_
 rintro e0 w1 ⟨rfl,b1⟩
 have X1:=VR (X.out.tr b1)
 have T1:=HTZ.out.ext b1
 clear c0 c1 c2 c3 cl b1
 have c3:=T1.c3
 have cl:=T1.lt
 have HT1:=VR T1
 clear T1 HTZ X
 by_cases h3:0≤m.day∧m.day≤73048
 case neg =>
  have HR:=VR (show K=8 by rw [← HK.out];unfold ckM;rw [if_neg (not_not_intro H1.out),if_neg (not_not_intro H2.out),if_pos h3])
  rw [decide_eq_false h3]
  clear h3
  go_wp2_with fail
  go_ret
  exact ⟨by first | (rw [HR.out];rfl) | rw [HR.out],X1.out⟩
 rw [decide_eq_true h3]
 have H3:=VR h3
 clear h3
 by_cases h1:m.roots.length<1
 case pos =>
  have HR:=VR (show K=72 by rw [← HK.out];unfold ckM;rw [if_neg (not_not_intro H1.out),if_neg (not_not_intro H2.out),if_neg (not_not_intro H3.out),if_pos (by rw [nO (.inl h1)];decide),nO (.inl h1)])
  have hb:((m.roots.length:Int)<1):=by omega
  clear h1
  go_wp2_with fail
  go_ret
  exact ⟨by first | (rw [HR.out];rfl) | rw [HR.out],X1.out⟩
 have hb1:¬ ((m.roots.length:Int)<1):=by omega
 by_cases h2:16<m.roots.length
 case pos =>
  have HR:=VR (show K=72 by rw [← HK.out];unfold ckM;rw [if_neg (not_not_intro H1.out),if_neg (not_not_intro H2.out),if_neg (not_not_intro H3.out),if_pos (by rw [nO (.inr h2)];decide),nO (.inr h2)])
  have hb:((16:Int)<(m.roots.length:Int)):=by omega
  clear h2
  go_wp2_with fail
  go_ret
  exact ⟨by first | (rw [HR.out];rfl) | rw [HR.out],X1.out⟩
 have hb2:¬ ((16:Int)<(m.roots.length:Int)):=by omega
 have HL:=VR (show ¬ (m.roots.length<1 ∨ 16<m.roots.length) by omega)
 clear h1 h2
 go_wp2_with fail
 clear hb1 hb2 c3 cl
 go_loopw [3] (fun s3 wr=>∃ k:Nat,k≤m.roots.length∧s3=.int .i64 (k:Int)∧Hid (Ext w wr)∧Hid (aX wr w.heap.size m (.slice A m.roots.length cp))∧Hid (∀ (j:Nat) (x:NC),j<k→m.roots[j]?=some x→ckN x=0)) (fun s3 _=>m.roots.length - (intOf s3).toNat)
 case atStart=>exact ⟨0,V7 _,rfl,X1,HT1,VR (fun j c h=>by omega)⟩
 case round =>
  obtain ⟨k,hk,rfl,X,TR,NO⟩:=hrel
  have c3:=TR.out.c3
  have cl:=TR.out.lt
  by_cases hlt:k<m.roots.length
  case pos =>
   obtain ⟨y,hy⟩:∃ y,m.roots[k]?=some y:=⟨_,V8 hlt⟩
   obtain ⟨b,o,rfl,hbl,hc⟩:=HEL.out (by omega)
   have hcy:=hc k y hy
   have HY:=VR hy
   clear hy hc
   have wi3:IntKind.i64.wrap ((k:Int))=(k:Int):=IntWalk.i64_in _ (by omega)
   have zi3:(0:Int)≤(k:Int):=by omega
   have li3:(k:Int)<(m.roots.length:Int):=by omega
   have ti3:((k:Int)).toNat=k:=by omega
   have wk:IntKind.i64.wrap ((k:Int)+1)=(k:Int)+1:=IntWalk.i64_in _ (by omega)
   have q0:=(X.out.cell (p:=⟨b,o+k*11,none⟩) hbl).trans hcy.1
   have q1:=(X.out.cell (p:=⟨b,o+k*11+1,none⟩) hbl).trans hcy.2.1
   have q2:=(X.out.cell (p:=⟨b,o+k*11+2,none⟩) hbl).trans hcy.2.2.1
   have q3:=(X.out.cell (p:=⟨b,o+k*11+3,none⟩) hbl).trans hcy.2.2.2.1
   have q4:=(X.out.cell (p:=⟨b,o+k*11+4,none⟩) hbl).trans hcy.2.2.2.2.1
   have q5:=(X.out.cell (p:=⟨b,o+k*11+5,none⟩) hbl).trans hcy.2.2.2.2.2.1
   have q6:=(X.out.cell (p:=⟨b,o+k*11+6,none⟩) hbl).trans hcy.2.2.2.2.2.2.1
   have q7:=(X.out.cell (p:=⟨b,o+k*11+7,none⟩) hbl).trans hcy.2.2.2.2.2.2.2.1
   have q8:=(X.out.cell (p:=⟨b,o+k*11+8,none⟩) hbl).trans hcy.2.2.2.2.2.2.2.2.1
   have q9:=(X.out.cell (p:=⟨b,o+k*11+9,none⟩) hbl).trans hcy.2.2.2.2.2.2.2.2.2.1
   have q10:=(X.out.cell (p:=⟨b,o+k*11+10,none⟩) hbl).trans hcy.2.2.2.2.2.2.2.2.2.2
   clear hcy
   go_wp2_with fail
   clear q0 q1 q2 q3 q4 q5 q6 q7 q8 q9 q10
   refine (HCK.out y _ (VD HY.out)).mono ?_
   rintro e w1 ⟨rfl,b1⟩
   have X1:=VR (X.out.tr b1)
   have TR1:=VR (TR.out.ext b1)
   clear X TR b1 c3 cl
   by_cases h3:ckN y=0
   case neg =>
    have HR:=VR (show K=ckN y by rw [← HK.out];unfold ckM;rw [if_neg (not_not_intro H1.out),if_neg (not_not_intro H2.out),if_neg (not_not_intro H3.out),if_pos (by rw [zT HL.out HY.out h3 NO.out];exact h3),zT HL.out HY.out h3 NO.out])
    have hb:(ckN y != 0)=true:=by simpa using h3
    clear h3
    go_wp2_with fail
    go_ret
    exact ⟨by first | (rw [HR.out];rfl) | rw [HR.out],X1.out⟩
   have NO2:=VR (nP (P:=fun c=>ckN c=0) HY.out h3 NO.out)
   rw [h3]
   clear h3 NO
   go_wp2_with fail
   go_roundw
   case rel=>exact ⟨k+1,by omega,by go_num,X1,TR1,NO2⟩
   case measure=>simp [intOf];omega
  case neg =>
  obtain rfl:k=m.roots.length:=by omega
  clear hlt hk
  go_wp2_with fail
  have X2:=X
  have TR2:=TR
  clear X TR c3 cl
  go_loopw [5] (fun s5 wr=>∃ k:Nat,k≤m.roots.length∧s5=.int .i64 (k:Int)∧Hid (Ext w wr)∧Hid (aX wr w.heap.size m (.slice A m.roots.length cp))∧Hid (∀ (j:Nat) (x:NC),j<k→m.roots[j]?=some x→rtN x=true)) (fun s5 _=>m.roots.length - (intOf s5).toNat)
  case atStart=>exact ⟨0,V7 _,rfl,X2,TR2,VR (fun j c h=>by omega)⟩
  case round =>
   obtain ⟨k,hk,rfl,X,TR,RT⟩:=hrel
   have c3:=TR.out.c3
   have cl:=TR.out.lt
   by_cases hlt:k<m.roots.length
   case neg =>
    obtain rfl:k=m.roots.length:=by omega
    have H5:=VR (qD HL.out NO.out RT.out)
    have HR:=VR (show K=sgE m.sg m.st by rw [← HK.out];unfold ckM;rw [if_neg (not_not_intro H1.out),if_neg (not_not_intro H2.out),if_neg (not_not_intro H3.out),if_neg (not_not_intro H5.out)])
    have c0:=TR.out.c0
    have c4:=TR.out.c4
    have c5:=TR.out.c5
    have c6:=TR.out.c6
    have c7:=TR.out.c7
    have c8:=TR.out.c8
    have c9:=TR.out.c9
    have c10:=TR.out.c10
    have c11:=TR.out.c11
    have c12:=TR.out.c12
    have c13:=TR.out.c13
    have c14:=TR.out.c14
    go_wp2_with fail
    refine (HSG.out _).mono ?_
    rintro e0 w2 ⟨rfl,b2⟩
    have X2:=VR (X.out.tr b2)
    clear b2 c0 c3 c4 c5 c6 c7 c8 c9 c10 c11 c12 c13 c14 cl
    go_wp2_with fail
    go_ret
    exact ⟨by first | (rw [HR.out];rfl) | rw [HR.out],X2.out⟩
   case pos =>
   obtain ⟨y,hy⟩:∃ y,m.roots[k]?=some y:=⟨_,V8 hlt⟩
   obtain ⟨b,o,rfl,hbl,hc⟩:=HEL.out (by omega)
   have hcy:=hc k y hy
   have HY:=VR hy
   clear hy hc
   have wi4:IntKind.i64.wrap ((k:Int))=(k:Int):=IntWalk.i64_in _ (by omega)
   have zi4:(0:Int)≤(k:Int):=by omega
   have li4:(k:Int)<(m.roots.length:Int):=by omega
   have ti4:((k:Int)).toNat=k:=by omega
   have wk:IntKind.i64.wrap ((k:Int)+1)=(k:Int)+1:=IntWalk.i64_in _ (by omega)
   have q0:=(X.out.cell (p:=⟨b,o+k*11,none⟩) hbl).trans hcy.1
   have q1:=(X.out.cell (p:=⟨b,o+k*11+1,none⟩) hbl).trans hcy.2.1
   have q2:=(X.out.cell (p:=⟨b,o+k*11+2,none⟩) hbl).trans hcy.2.2.1
   have q3:=(X.out.cell (p:=⟨b,o+k*11+3,none⟩) hbl).trans hcy.2.2.2.1
   have q4:=(X.out.cell (p:=⟨b,o+k*11+4,none⟩) hbl).trans hcy.2.2.2.2.1
   have q5:=(X.out.cell (p:=⟨b,o+k*11+5,none⟩) hbl).trans hcy.2.2.2.2.2.1
   have q6:=(X.out.cell (p:=⟨b,o+k*11+6,none⟩) hbl).trans hcy.2.2.2.2.2.2.1
   have q7:=(X.out.cell (p:=⟨b,o+k*11+7,none⟩) hbl).trans hcy.2.2.2.2.2.2.2.1
   have q8:=(X.out.cell (p:=⟨b,o+k*11+8,none⟩) hbl).trans hcy.2.2.2.2.2.2.2.2.1
   have q9:=(X.out.cell (p:=⟨b,o+k*11+9,none⟩) hbl).trans hcy.2.2.2.2.2.2.2.2.2.1
   have q10:=(X.out.cell (p:=⟨b,o+k*11+10,none⟩) hbl).trans hcy.2.2.2.2.2.2.2.2.2.2
   clear hcy
   go_wp2_with fail
   clear q0 q1 q2 q3 q4 q5 q6 q7 q8 q9 q10
   refine (HRT.out y _ (VD HY.out) X.out).mono ?_
   rintro e w1 ⟨rfl,b1⟩
   have X1:=VR (X.out.tr b1)
   have TR1:=VR (TR.out.ext b1)
   clear X TR b1 c3 cl
   cases h3:rtN y with
   | false =>
     have HR:=VR (show K=61 by rw [← HK.out];unfold ckM;rw [if_neg (not_not_intro H1.out),if_neg (not_not_intro H2.out),if_neg (not_not_intro H3.out),if_pos (by rw [vS HL.out NO.out HY.out h3];decide),vS HL.out NO.out HY.out h3])
     clear h3
     go_wp2_with fail
     go_ret
     exact ⟨by first | (rw [HR.out];rfl) | rw [HR.out],X1.out⟩
   | true =>
     have RT2:=VR (nP (P:=fun c=>rtN c=true) HY.out h3 RT.out)
     clear h3 RT
     go_wp2_with fail
     go_roundw
     case rel=>exact ⟨k+1,by omega,by go_num,X1,TR1,RT2⟩
     case measure=>simp [intOf];omega
theorem vU {W:World}{rb g1 d:Nat}{t:Nd}{T S:Int}{l:List UInt8}{A1 A2 A:Option Addr}{n1 c1 n2 c2 n c:Nat} (hg1:g1=W.heap.size) (hrb:rb<W.heap.size)
 (h:NdG (rb+1) d t (.agg #[.int .i64 t.tag,.slice A1 n1 c1,.slice A2 n2 c2]) W) (hs:RdS (fun b=>rb+1≤b) W (.slice A n c) (bvs l)) (v0 v1 v2:Value) :
 NdG (rb+1) (d+1) (.mk T [] [t,bA S l]) (.agg #[.int .i64 T,.slice none 0 0,.slice (some ⟨g1,0,none⟩) 2 2])
  (Go.Proofs.YtkjplpmogfmhkaaGreatDoor.set3 (W.alloc (.cells #[.int .i64 t.tag,.slice A1 n1 c1,.slice A2 n2 c2,.int .i64 S,.slice A n c,.slice none 0 0] 180)) rb v0 v1 v2):=by
 subst hg1
 obtain ⟨B1,m1,k1,B2,m2,k2,e,r,k⟩:=h
 injection e with e
 injection e with e
 simp only [List.cons.injEq,Value.slice.injEq,and_true,true_and] at e
 obtain ⟨⟨rfl,rfl,rfl⟩,rfl,rfl,rfl⟩:=e
 have cells:=((cG.nil (fun b=>rb+1≤b) d W).snoc r k).snoc (t:=bA S l) hs (gY.nil _ _)
 have e0:Ext W (W.alloc (.cells #[.int .i64 t.tag,.slice A1 n1 c1,.slice A2 n2 c2,.int .i64 S,.slice A n c,.slice none 0 0] 180)):=(Below.refl _ _).alloc (UX _) _
 have ho:=aJ.lit W 3 #[.int .i64 t.tag,.slice A1 n1 c1,.slice A2 n2 c2,.int .i64 S,.slice A n c,.slice none 0 0] 180 2 rfl (by unfold maxLen;omega)
 have h2:gY (fun b=>rb+1≤b) (d+1) (W.alloc (.cells #[.int .i64 t.tag,.slice A1 n1 c1,.slice A2 n2 c2,.int .i64 S,.slice A n c,.slice none 0 0] 180)) (.slice (some ⟨W.heap.size,0,none⟩) 2 2) [t,bA S l] :=
  gY.mk ho (cells.map fun b hb hlt=>⟨hb,e0.block b hlt⟩) (fun b hb=>hb) (fun b (hb:W.heap.size≤b)=>by omega)
 exact ⟨_,_,_,_,_,_,rfl,RdS.nil _,h2.map fun b hb _=>⟨hb,lV (by omega)⟩⟩
def QZ (w:World) (l:List UInt8) (e:Ending) (w':World):Prop:=∃ A n c,e=.returned (.tuple #[.slice A n c,.int .i64 0])∧GS w.heap.size l (.slice A n c) w'∧Ext w w'
theorem Q1 (e s:Int) (w:World) (he:inB 0 1073741789 e=true) (hs:inB 0 1073741789 s=true):Calls Tryz.prog 206 #[.agg #[.int .i64 e,.int .i64 s]] w (QZ w (be4 e++be4 s)) :=
 (P8 e s w he hs).mono fun e w' ⟨A,n,c,h1,h2,h3,h4⟩=>⟨A,n,c,h1,RdS.of h3 fun b hb=>hb,h4⟩
set_option maxHeartbeats 1000000 in
theorem FK (e s:Int) (w:World) (he:inB 0 1073741789 e=true) (hs:inB 0 1073741789 s=true) :
 Calls Tryz.prog 210 #[.agg #[.int .i64 e,.int .i64 s]] w (QZ w (be4 e++be4 s)):=by
 have x0:Ext w (w.alloc (.cells #[.int .i64 e,.int .i64 s] 33)):=(Below.refl _ _).alloc (UX _) _
 have Ec:∀ W,Ext (w.alloc (.cells #[.int .i64 e,.int .i64 s] 33)) W→W.cell? ⟨w.heap.size,0,none⟩=some (.int .i64 e)∧W.cell? ⟨w.heap.size,1,none⟩=some (.int .i64 s):=fun W h =>
  ⟨(h.cell (p:=⟨w.heap.size,0,none⟩) (by simp)).trans (by go_simp),(h.cell (p:=⟨w.heap.size,1,none⟩) (by simp)).trans (by go_simp)⟩
 have EC:=VR Ec
 clear Ec
 go_enter Tryz.func210,Tryz.ntmps210
 go_wp2_with fail
 refine (iJ _ _).mono ?_
 rw [he]
 rintro e' w' ⟨rfl,rfl⟩
 go_wp2_with fail
 refine (iJ _ _).mono ?_
 rw [hs]
 rintro e' w' ⟨rfl,rfl⟩
 go_wp2_with fail
 refine Gd.aO 7 (by kernel_rfl) (by kernel_rfl) ?_
 simp only [VH,VE,VI,VJ]
 intro w1 hw1
 have L:∀ m:Lt w1,Ext (w.alloc (.cells #[.int .i64 e,.int .i64 s] 33)) m.1:=fun m=>hw1.tr m.2
 have q0:∀ m:Lt w1,m.1.cell? ⟨w.heap.size,0,none⟩=some (.int .i64 e):=fun m=>(EC.out _ (L m)).1
 have q1:∀ m:Lt w1,m.1.cell? ⟨w.heap.size,1,none⟩=some (.int .i64 s):=fun m=>(EC.out _ (L m)).2
 repeat (refine Gd.aD (by first | exact trivial | exact ⟨_,rfl,rfl,rfl⟩) rfl rfl rfl rfl rfl (fun K hK=>?_);go_big_quiet_op;refine hK _ ?_;clear hK K)
 refine Gd.eT (by first | exact trivial | exact ⟨_,rfl,rfl,rfl⟩) (GB (be4 e)) (xO _) rfl rfl rfl rfl (by kernel_rfl) rfl rfl (fun m=>(mJ _ _).mono fun _ _ h=>h.gb) ?_
 simp only [Act.put,UY,UZ,V0]
 repeat (refine Gd.aD (by first | exact trivial | exact ⟨_,rfl,rfl,rfl⟩) rfl rfl rfl rfl rfl (fun K hK=>?_);go_big_quiet_op;refine hK _ ?_;clear hK K)
 refine Gd.eT (by first | exact trivial | exact ⟨_,rfl,rfl,rfl⟩) (GB (be4 s)) (xO _) rfl rfl rfl rfl (by kernel_rfl) rfl rfl (fun m=>(mJ _ _).mono fun _ _ h=>h.gb) ?_
 simp only [Act.put,UY,UZ,V0]
 refine Gd.jL (by first | exact trivial | exact ⟨_,rfl,rfl,rfl⟩) (GS w.heap.size (be4 e++be4 s)) (bY _ _) (fun f=>[f 16,f 19]) rfl rfl rfl rfl (fun f=>rfl) (by kernel_rfl) (fun f=>rfl) (fun m f hf=>by
  obtain ⟨A1,n1,c1,h1,hn1,r1⟩:=hf 16 _ rfl rfl
  obtain ⟨A2,n2,c2,h2,hn2,r2⟩:=hf 19 _ rfl rfl
  rw [h1,h2]
  exact (uC _ r1 r2 (by simp [be4])).mono fun _ _ h=>h.gs (V9 x0.size (L m).size)) ?_
 simp only [Act.put,UY,UZ,V0]
 refine Gd.B5 (by decide) (by decide) (by decide) (fun m u1 u2 u3 hu1 hu2 hu3=>?_)
 simp only [Act.put,UY,UZ,V0]
 obtain ⟨A5,n5,c5,rfl⟩:=GS.slice hu3
 have r5:=VR hu3
 clear hu3
 have Lm:=L m
 obtain ⟨wy,hwy⟩:=m
 clear L q0 q1
 go_wp2_with fail
 go_ret2
 exact ⟨_,_,_,rfl,r5.out,x0.tr Lm⟩
set_option maxHeartbeats 2000000 in
theorem K0 (c:NC) (w:World) (hs:smN c) (hc0:ckN c=0) (he0:inB 0 1073741789 c.e=true) (hs0:inB 0 1073741789 c.s=true):Calls Tryz.prog 149 #[ncV c] w (GU w 2 (eK c) fun v=>.tuple #[v,.int .i64 0]):=by
 obtain ⟨wz,hwz⟩:∃ wz,wz=((w.alloc (.cells #[.string (aI c.st),.int .i64 c.kind,.int .i64 c.num,.int .i64 c.iss,.int .i64 c.own,.int .i64 c.key,.int .i64 c.fr,.int .i64 c.un,.int .i64 c.to,.int .i64 c.e,.int .i64 c.s] 56))).alloc (.cells #[.int .i64 0,.slice none 0 0,.slice none 0 0] 180):=⟨_,rfl⟩
 have e1:Ext w (w.alloc (.cells #[.string (aI c.st),.int .i64 c.kind,.int .i64 c.num,.int .i64 c.iss,.int .i64 c.own,.int .i64 c.key,.int .i64 c.fr,.int .i64 c.un,.int .i64 c.to,.int .i64 c.e,.int .i64 c.s] 56)):=(Below.refl _ _).alloc (UX _) _
 have x0:Ext w wz:=by rw [hwz];exact e1.alloc (by simp) _
 have hT:bE wz w.heap.size c:=by rw [hwz];exact (bE.new w c).ext ((Below.refl _ _).alloc (UX _) _)
 have hb:C3 wz (w.heap.size+1) (.int .i64 0) (.slice none 0 0) (.slice none 0 0):=by
  have:=C3.new (w.alloc (.cells #[.string (aI c.st),.int .i64 c.kind,.int .i64 c.num,.int .i64 c.iss,.int .i64 c.own,.int .i64 c.key,.int .i64 c.fr,.int .i64 c.un,.int .i64 c.to,.int .i64 c.e,.int .i64 c.s] 56)) (.int .i64 0) (.slice none 0 0) (.slice none 0 0)
  rw [show (w.alloc (.cells #[.string (aI c.st),.int .i64 c.kind,.int .i64 c.num,.int .i64 c.iss,.int .i64 c.own,.int .i64 c.key,.int .i64 c.fr,.int .i64 c.un,.int .i64 c.to,.int .i64 c.e,.int .i64 c.s] 56)).heap.size=w.heap.size+1 by simp] at this
  rw [hwz];exact this
 have hsz:w.heap.size+1<wz.heap.size:=hb.lt
 unfold ncV
 go_enter Tryz.func149,Tryz.ntmps149
 go_wp2_with fail
 rw [← hwz]
 clear hwz e1
 obtain ⟨t0,t1,t2,t3,t4,t5,t6,t7,t8,t9,t10⟩:=hT.cells
 have hl:=hT.lt
 go_wp2_with fail
 refine (eL c _ hs).mono ?_
 rintro e w1 ⟨rfl,b1⟩
 have x1:=x0.tr b1
 have hT1:=hT.ext b1
 have hb1:=hb.ex b1
 clear t0 t1 t2 t3 t4 t5 t6 t7 t8 t9 t10 hl hT hb
 have h1s:w.heap.size+1+1≤w1.heap.size:=hb1.lt
 have HK:=VR hc0
 rw [hc0]
 clear hc0
 obtain ⟨t0,t1,t2,t3,t4,t5,t6,t7,t8,t9,t10⟩:=hT1.cells
 have hl:=hT1.lt
 go_wp2_with fail
 refine (Q1 c.e c.s _ he0 hs0).mono ?_
 rintro e w2 ⟨A,n,cs,rfl,r,b2⟩
 have x2:=x1.tr b2
 have hT2:=hT1.ext b2
 have hb2:=hb1.ex b2
 clear t0 t1 t2 t3 t4 t5 t6 t7 t8 t9 t10 hl hT1 hb1 he0 hs0
 obtain ⟨t0,t1,t2,t3,t4,t5,t6,t7,t8,t9,t10⟩:=hT2.cells
 have hl:=hT2.lt
 have hrb:=hb2.lt
 go_wp2_with fail
 refine (CA c _ HK.out).mono ?_
 rintro e w3 ⟨b3,v,hv,rfl⟩
 obtain ⟨A1,n1,c1,A2,n2,c2,rfl⟩:=jM hv
 rw [show (eJ c).tag=48 from rfl]
 have x3:=x2.tr b3
 have hb3:=hb2.ex b3
 have e1:Ext w3 (w3.alloc (.cells #[.int .i64 48,.slice A1 n1 c1,.slice A2 n2 c2] 180)):=(Below.refl _ _).alloc (UX _) _
 have HV:=VR (bI _ _ _ _ _ _ e1 (hv.mono (B':=w.heap.size+1+1) (by have:=x2.size;omega)))
 have HS:=VR (((bY _ _ _ _ _ (b3.tr e1) r).map (fun b hb _=>⟨V9 h1s hb,rfl⟩)))
 have hrb3:=hb3.lt
 have HN:=VR (vU (T:=48) (S:=3) (g1:=w3.heap.size+1) (t:=eJ c) (d:=1) (by simp) (by simp;omega) HV.out HS.out (.int .i64 48) (.slice none 0 0) (.slice (some ⟨w3.heap.size+1,0,none⟩) 2 2))
 have W4:Ext w3 ((w3.alloc (.cells #[.int .i64 48,.slice A1 n1 c1,.slice A2 n2 c2] 180)).alloc (.cells #[.int .i64 48,.slice A1 n1 c1,.slice A2 n2 c2,.int .i64 3,.slice A n cs,.slice none 0 0] 180)):=e1.alloc (by simp) _
 have x4:=x3.tr W4
 have hb4:=hb3.ex W4
 obtain ⟨y0,y1,y2,yf0,yf1,yf2⟩:=hb4.cells
 obtain ⟨w0',w1',w2',_,_,_⟩:=(hb4.set3 (.int .i64 48) (.slice none 0 0) (.slice (some ⟨w3.heap.size+1,0,none⟩) 2 2)).cells
 have hlb:=hb4.lt
 clear t0 t1 t2 t3 t4 t5 t6 t7 t8 t9 t10 hl hT2 hv r hb2 hb3
 go_wp2_with fail
 refine bodyPost_ret (v:=.tuple #[.agg #[.int .i64 48,.slice none 0 0,.slice (some ⟨w3.heap.size+1,0,none⟩) 2 2],.int .i64 0]) ?_ rfl ⟨mN x4 (by omega) _ _ _,_,NdG.mono (by omega) HN.out,rfl⟩
 simp [results,Tryz.results149,go_sem,w0',w1',w2']
set_option maxHeartbeats 2000000 in
theorem CX (c:NC) (w:World) (hs:smN c) (hc0:ckN c=0) (he0:inB 0 1073741789 c.e=true) (hs0:inB 0 1073741789 c.s=true):Calls Tryz.prog 154 #[ncV c] w (GU w 2 (eK c) fun v=>.tuple #[v,.int .i64 0]):=by
 obtain ⟨wz,hwz⟩:∃ wz,wz=((w.alloc (.cells #[.string (aI c.st),.int .i64 c.kind,.int .i64 c.num,.int .i64 c.iss,.int .i64 c.own,.int .i64 c.key,.int .i64 c.fr,.int .i64 c.un,.int .i64 c.to,.int .i64 c.e,.int .i64 c.s] 56))).alloc (.cells #[.int .i64 0,.slice none 0 0,.slice none 0 0] 180):=⟨_,rfl⟩
 have e1:Ext w (w.alloc (.cells #[.string (aI c.st),.int .i64 c.kind,.int .i64 c.num,.int .i64 c.iss,.int .i64 c.own,.int .i64 c.key,.int .i64 c.fr,.int .i64 c.un,.int .i64 c.to,.int .i64 c.e,.int .i64 c.s] 56)):=(Below.refl _ _).alloc (UX _) _
 have x0:Ext w wz:=by rw [hwz];exact e1.alloc (by simp) _
 have hT:bE wz w.heap.size c:=by rw [hwz];exact (bE.new w c).ext ((Below.refl _ _).alloc (UX _) _)
 have hb:C3 wz (w.heap.size+1) (.int .i64 0) (.slice none 0 0) (.slice none 0 0):=by
  have:=C3.new (w.alloc (.cells #[.string (aI c.st),.int .i64 c.kind,.int .i64 c.num,.int .i64 c.iss,.int .i64 c.own,.int .i64 c.key,.int .i64 c.fr,.int .i64 c.un,.int .i64 c.to,.int .i64 c.e,.int .i64 c.s] 56)) (.int .i64 0) (.slice none 0 0) (.slice none 0 0)
  rw [show (w.alloc (.cells #[.string (aI c.st),.int .i64 c.kind,.int .i64 c.num,.int .i64 c.iss,.int .i64 c.own,.int .i64 c.key,.int .i64 c.fr,.int .i64 c.un,.int .i64 c.to,.int .i64 c.e,.int .i64 c.s] 56)).heap.size=w.heap.size+1 by simp] at this
  rw [hwz];exact this
 have hsz:w.heap.size+1<wz.heap.size:=hb.lt
 unfold ncV
 go_enter Tryz.func154,Tryz.ntmps154
 go_wp2_with fail
 rw [← hwz]
 clear hwz e1
 obtain ⟨t0,t1,t2,t3,t4,t5,t6,t7,t8,t9,t10⟩:=hT.cells
 have hl:=hT.lt
 go_wp2_with fail
 refine (dN c _ hs).mono ?_
 rintro e w1 ⟨rfl,b1⟩
 have x1:=x0.tr b1
 have hT1:=hT.ext b1
 have hb1:=hb.ex b1
 clear t0 t1 t2 t3 t4 t5 t6 t7 t8 t9 t10 hl hT hb
 have h1s:w.heap.size+1+1≤w1.heap.size:=hb1.lt
 have HK:=VR hc0
 rw [hc0]
 clear hc0
 obtain ⟨t0,t1,t2,t3,t4,t5,t6,t7,t8,t9,t10⟩:=hT1.cells
 have hl:=hT1.lt
 go_wp2_with fail
 refine (FK c.e c.s _ he0 hs0).mono ?_
 rintro e w2 ⟨A,n,cs,rfl,r,b2⟩
 have x2:=x1.tr b2
 have hT2:=hT1.ext b2
 have hb2:=hb1.ex b2
 clear t0 t1 t2 t3 t4 t5 t6 t7 t8 t9 t10 hl hT1 hb1 he0 hs0
 obtain ⟨t0,t1,t2,t3,t4,t5,t6,t7,t8,t9,t10⟩:=hT2.cells
 have hl:=hT2.lt
 have hrb:=hb2.lt
 go_wp2_with fail
 refine (sF c _ HK.out).mono ?_
 rintro e w3 ⟨b3,v,hv,rfl⟩
 obtain ⟨A1,n1,c1,A2,n2,c2,rfl⟩:=jM hv
 rw [show (eJ c).tag=48 from rfl]
 have x3:=x2.tr b3
 have hb3:=hb2.ex b3
 simp only [id]
 go_wp2_with fail
 refine (C4 3 A n cs _).mono ?_
 rintro e w4 ⟨rfl,b4⟩
 have x4':=x3.tr b4
 have hb4':=hb3.ex b4
 have HV:=VR (bI _ _ _ _ _ _ b4 (hv.mono (B':=w.heap.size+1+1) (by have:=x2.size;omega)))
 have HS:=VR (((bY _ _ _ _ _ (b3.tr b4) r).map (fun b hb _=>⟨V9 h1s hb,rfl⟩)))
 have hrb3:=hb4'.lt
 have HN:=VR (vU (T:=48) (S:=3) (g1:=w4.heap.size) (t:=eJ c) (d:=1) rfl hrb3 HV.out HS.out (.int .i64 48) (.slice none 0 0) (.slice (some ⟨w4.heap.size,0,none⟩) 2 2))
 have W4:Ext w4 (w4.alloc (.cells #[.int .i64 48,.slice A1 n1 c1,.slice A2 n2 c2,.int .i64 3,.slice A n cs,.slice none 0 0] 180)):=(Below.refl _ _).alloc (UX _) _
 have x4:=x4'.tr W4
 have hb4:=hb4'.ex W4
 obtain ⟨wa,hwa⟩:∃ wa,wa=w4.alloc (.cells #[.int .i64 48,.slice A1 n1 c1,.slice A2 n2 c2,.int .i64 3,.slice A n cs,.slice none 0 0] 180):=⟨_,rfl⟩
 have HN2:=VR (show NdG (w.heap.size+1+1) (1+1) (.mk 48 [] [eJ c,bA 3 (be4 c.e++be4 c.s)]) (.agg #[.int .i64 48,.slice none 0 0,.slice (some ⟨w4.heap.size,0,none⟩) 2 2]) (Go.Proofs.YtkjplpmogfmhkaaGreatDoor.set3 wa (w.heap.size+1) (.int .i64 48) (.slice none 0 0) (.slice (some ⟨w4.heap.size,0,none⟩) 2 2)) from by rw [hwa];exact HN.out)
 rw [← hwa] at x4 hb4
 have hwb:=hwa.symm
 clear hb4' x4' hwa W4 HN hrb3
 obtain ⟨y0,y1,y2,yf0,yf1,yf2⟩:=hb4.cells
 obtain ⟨w0',w1',w2',_,_,_⟩:=(hb4.set3 (.int .i64 48) (.slice none 0 0) (.slice (some ⟨w4.heap.size,0,none⟩) 2 2)).cells
 have hlb:=hb4.lt
 clear t0 t1 t2 t3 t4 t5 t6 t7 t8 t9 t10 hl hT2 hv r hb2 hb3
 go_wp2_with fail
 refine bodyPost_ret (v:=.tuple #[.agg #[.int .i64 48,.slice none 0 0,.slice (some ⟨w4.heap.size,0,none⟩) 2 2],.int .i64 0]) ?_ rfl ⟨mN x4 (by omega) _ _ _,_,NdG.mono (by omega) HN2.out,rfl⟩
 simp [results,Tryz.results154,go_sem,w0',w1',w2']
theorem R2:56≠51:=by decide
def AdI (w:World) (B g:Nat) (L:List NC):Prop:=∃ (A:Option Addr) (c:Nat),w.heap[g]?=some (.cells #[.slice A L.length c] 51 (0,0))∧aJ w B 56 11 (.slice A L.length c) (aA L)
theorem AdI.ext {w w':World}{B g:Nat}{L:List NC} (h:AdI w B g L) (e:Ext w w'):AdI w' B g L:=by
 obtain ⟨A,c,h1,h2⟩:=h
 exact ⟨A,c,(e.block g (a9 h1)).trans h1,h2.ext e⟩
theorem CY {L:List NC}{y:NC} (h:y ∈ L):fH L y=L:=if_pos h
theorem FL {L:List NC}{y:NC} (h:y ∉ L):fH L y=L++[y]:=if_neg h
theorem N3 {w w8:World}{g B:Nat}{v:Value}{xs:List Value}{cs:Array Value}{fr:Nat × Nat} (hb:w.heap[g]?=some (.cells cs 51 fr)) (o:aJ w B 56 11 v xs) (g8:w.grownBy w8 (aL v)):w8.heap[g]?=some (.cells cs 51 fr) :=
 (g8.block g (a9 hb) (fun q=>o.row_blk hb R2 q.symm)).trans hb
theorem Q2 {w:World}{g:Nat}{u:Value}{T:Nat} (hb:w.heap[g]?=some (.cells #[u] T (0,0))):w.cell? ⟨g,0,none⟩=some u∧g<w.heap.size∧w.frozen? ⟨g,0,none⟩=false :=
 ⟨by rw [cell_of_row w g 0 _ _ _ hb];rfl,a9 hb,by simp [World.frozen?,hb]⟩
set_option maxHeartbeats 4000000 in
theorem CZ {v:Value}{l L:List NC}{g:Nat} (w w1:World) (hv:RdN w v l) (hg:w.heap.size≤g) (I:AdI w1 w.heap.size g L) (X:Ext w w1) (hl:L.length+l.length≤1000000) :
 Calls Tryz.prog 147 #[v,.pointer (some ⟨g,0,none⟩)] w1 fun e w'=>e=.returned (.tuple #[])∧AdI w' w.heap.size g (fY L l)∧Ext w w':=by
 obtain ⟨A,n,cp,rfl,hn,hnc,hcm,hel⟩:=hv.at_
 subst hn
 have HEL:=VR hel
 unfold maxLen at hcm
 have HI:=VR (show AdI w1 w.heap.size g (fY L (l.take 0)) from I)
 have HX:=VR X
 have HLN:=VR hl
 clear hel hv I X hl
 go_enter Tryz.func147,Tryz.ntmps147
 go_wp2_with fail
 go_loopw [7] (fun i wr=>∃ k:Nat,k≤l.length∧i=.int .i64 (k:Int)∧Hid (AdI wr w.heap.size g (fY L (l.take k)))∧Hid (Ext w wr)) (fun i _=>l.length - (intOf i).toNat)
 case atStart=>exact ⟨0,V7 _,rfl,HI,HX⟩
 case round =>
  obtain ⟨k,hk,rfl,I,X⟩:=hrel
  by_cases hlt:k<l.length
  case neg =>
   obtain rfl:k=l.length:=by omega
   have HR:Hid (AdI wr w.heap.size g (fY L l)):=VR (by have:=I.out;rwa [List.take_length] at this)
   clear I
   go_wp2_with fail
   refine bodyPost_end (v:=.tuple #[]) ?_ rfl ⟨rfl,HR.out,X.out⟩
   simp [results,Tryz.results147,go_sem]
  case pos =>
  obtain ⟨y,hy⟩:∃ y,l[k]?=some y:=⟨_,V8 hlt⟩
  obtain ⟨b,o,rfl,hbl,hc⟩:=HEL.out (by omega)
  have hcy:=hc k y hy
  have HSN:=VR (JZ L hy)
  have HLE:=VR (show (fY L (l.take k)).length≤999999 by have h1:=qC L (l.take k);rw [VL] at h1;have:=HLN.out;omega)
  clear hy hc
  have wi1:IntKind.i64.wrap ((k:Int))=(k:Int):=IntWalk.i64_in _ (by omega)
  have zi1:(0:Int)≤(k:Int):=by omega
  have li1:(k:Int)<(l.length:Int):=by omega
  have ti1:((k:Int)).toNat=k:=by omega
  have wk:IntKind.i64.wrap ((k:Int)+1)=(k:Int)+1:=IntWalk.i64_in _ (by omega)
  obtain ⟨N,hN⟩:∃ N,fY L (l.take k)=N:=⟨_,rfl⟩
  rw [hN] at HSN HLE I
  clear hN
  obtain ⟨Ao,co,hb,ho⟩:=I.out
  have HB:=VR hb
  have HO:=VR ho
  clear hb ho I
  have q0:=(X.out.cell (p:=⟨b,o+k*11,none⟩) hbl).trans hcy.1
  have q1:=(X.out.cell (p:=⟨b,o+k*11+1,none⟩) hbl).trans hcy.2.1
  have q2:=(X.out.cell (p:=⟨b,o+k*11+2,none⟩) hbl).trans hcy.2.2.1
  have q3:=(X.out.cell (p:=⟨b,o+k*11+3,none⟩) hbl).trans hcy.2.2.2.1
  have q4:=(X.out.cell (p:=⟨b,o+k*11+4,none⟩) hbl).trans hcy.2.2.2.2.1
  have q5:=(X.out.cell (p:=⟨b,o+k*11+5,none⟩) hbl).trans hcy.2.2.2.2.2.1
  have q6:=(X.out.cell (p:=⟨b,o+k*11+6,none⟩) hbl).trans hcy.2.2.2.2.2.2.1
  have q7:=(X.out.cell (p:=⟨b,o+k*11+7,none⟩) hbl).trans hcy.2.2.2.2.2.2.2.1
  have q8:=(X.out.cell (p:=⟨b,o+k*11+8,none⟩) hbl).trans hcy.2.2.2.2.2.2.2.2.1
  have q9:=(X.out.cell (p:=⟨b,o+k*11+9,none⟩) hbl).trans hcy.2.2.2.2.2.2.2.2.2.1
  have q10:=(X.out.cell (p:=⟨b,o+k*11+10,none⟩) hbl).trans hcy.2.2.2.2.2.2.2.2.2.2
  clear hcy
  obtain ⟨wn,hwn,en,TN⟩:=cC wr y
  go_upto_region 3 with fail
  rw [← hwn]
  clear hwn q0 q1 q2 q3 q4 q5 q6 q7 q8 q9 q10
  have HBN:=VR ((en.block g (a9 HB.out)).trans HB.out)
  have HON:=VR (HO.out.ext en)
  have XN:=VR (X.out.tr en)
  clear HB HO X en
  have cg:wn.cell? ⟨g,0,none⟩=some (.slice Ao N.length co):=by rw [cell_of_row wn g 0 _ _ _ HBN.out];rfl
  have gl:=a9 HBN.out
  obtain ⟨p0,p1,p2,p3,p4,p5,p6,p7,p8,p9,p10⟩:=(TN).cells
  have pf0:=(TN).frozen 0
  have pf1:=(TN).frozen 1
  have pf2:=(TN).frozen 2
  have pf3:=(TN).frozen 3
  have pf4:=(TN).frozen 4
  have pf5:=(TN).frozen 5
  have pf6:=(TN).frozen 6
  have pf7:=(TN).frozen 7
  have pf8:=(TN).frozen 8
  have pf9:=(TN).frozen 9
  have pf10:=(TN).frozen 10
  have pl:=(TN).lt
  go_wp2_with fail
  refine (wX y wn HON.out.rd).mono ?_
  rintro e w2 ⟨rfl,b2⟩
  have TN2:=TN.ext b2
  clear cg gl
  clear p0 pf0 p1 pf1 p2 pf2 p3 pf3 p4 pf4 p5 pf5 p6 pf6 p7 pf7 p8 pf8 p9 pf9 p10 pf10 pl
  have HB2:=VR ((b2.block g (a9 HBN.out)).trans HBN.out)
  have HO2:=VR (HON.out.ext b2)
  have X2:=VR (XN.out.tr b2)
  clear TN HBN HON XN b2
  have cg:w2.cell? ⟨g,0,none⟩=some (.slice Ao N.length co):=by rw [cell_of_row w2 g 0 _ _ _ HB2.out];rfl
  have gl:=a9 HB2.out
  have gf:w2.frozen? ⟨g,0,none⟩=false:=by simp [World.frozen?,HB2.out]
  by_cases hm:y ∈ N
  · have HF:=VR (show fY L (l.take (k+1))=N by rw [HSN.out];exact CY hm)
    rw [decide_eq_true hm]
    clear hm
    go_wp2_with fail
    go_roundw
    case rel=>exact ⟨k+1,by omega,by go_num,by rw [HF.out];exact VR ⟨Ao,co,HB2.out,HO2.out⟩,X2⟩
    case measure=>simp [intOf];omega
  · have HF:=VR (show fY L (l.take (k+1))=N++[y] by rw [HSN.out];exact FL hm)
    rw [decide_eq_false hm]
    clear hm
    obtain ⟨p0,p1,p2,p3,p4,p5,p6,p7,p8,p9,p10⟩:=(TN2).cells
    have pf0:=(TN2).frozen 0
    have pf1:=(TN2).frozen 1
    have pf2:=(TN2).frozen 2
    have pf3:=(TN2).frozen 3
    have pf4:=(TN2).frozen 4
    have pf5:=(TN2).frozen 5
    have pf6:=(TN2).frozen 6
    have pf7:=(TN2).frozen 7
    have pf8:=(TN2).frozen 8
    have pf9:=(TN2).frozen 9
    have pf10:=(TN2).frozen 10
    have pl:=(TN2).lt
    have eA:Ext w2 (w2.alloc (.cells (aF y).toArray 56)):=(Below.refl _ _).alloc (UX _) _
    have HRK:=VR (rL w2 y)
    have HO3:=VR (HO2.out.ext eA)
    have HB3:=VR ((eA.block g gl).trans HB2.out)
    have X3:=VR (X2.out.tr eA)
    unfold aF at HRK HO3 HB3 X3
    clear eA
    go_wp2_with (refine bP (k:=11) (by decide) gU (n:=N.length) (m:=1) (B:=w.heap.size) HO3.out (by rw [bF]) HRK.out (by rfl) (dO y) X3.out (by have:=HLE.out;omega) (by have:=HLE.out;unfold maxLen;omega) X3.out.size rfl rfl rfl rfl ?_;intro A8 n8 c8 w8 hn8 o8 x8 g8;have HB8:=VR (N3 HB3.out HO3.out g8);obtain ⟨gc8,gl8,gf8⟩:=Q2 HB8.out)
    have hn8:n8=(N++[y]).length:=by rw [V5];exact hn8.out
    subst hn8
    have HI8:Hid (AdI (w8.setCell ⟨g,0,none⟩ (.slice A8 (N++[y]).length c8)) w.heap.size g (N++[y])):=VR ⟨A8,c8,by have:=aG HB8.out 0 (.slice A8 (N++[y]).length c8);exact this,by rw [← eE];exact o8.grown (Gb.set g 0 w8 _) (.inr (o8.row_blk HB8.out R2))⟩
    have X8:=VR (aH x8 hg (i:=0) (v:=.slice A8 (N++[y]).length c8))
    clear x8 o8 gl8 gf8 gc8 HB8
    go_roundw
    case rel=>exact ⟨k+1,by omega,by go_num,by rw [HF.out];exact HI8,X8⟩
    case measure=>simp [intOf];omega
end Go.Proofs.YtkjplpmogfmhkaaGreatDoor
