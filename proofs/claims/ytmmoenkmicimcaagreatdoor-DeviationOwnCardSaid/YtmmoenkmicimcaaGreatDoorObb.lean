import Derived.Test.YtmmoenkmicimcaaGreatDoorOaz
import Derived.Deep.MidRow
import Derived.Test.YtmmoenkmicimcaaGreatDoorOap
namespace Go.Proofs.YtmmoenkmicimcaaGreatDoor
open Go.RowKit
set_option linter.unusedVariables false
set_option maxRecDepth 100000
theorem fE (g:Nat):∀ (l:List Value) (i:Nat) (w:World),w.setCells g i l=vC w g i l
 | [],i,w=>rfl
 | v::l,i,w=>fE g l (i+1) _
theorem Gb.setCellsU (g:Nat):∀ (l:List Value) (i:Nat) (w:World),Gb g w (w.setCells g i l)
 | [],i,w=>Gb.refl _ _
 | v::l,i,w=>(Gb.set g i w v).tr (Gb.setCellsU g l (i+1) _)
theorem Rd.k1 {w:World}{v:Value}{xs:List Value}(h:Rd w v xs):RdK w 1 v xs:=by obtain⟨A,n,c,rfl,q,l⟩:=h;exact⟨A,n,c,rfl,by omega,l⟩
theorem RdK.r1 {w:World}{v:Value}{xs:List Value}(h:RdK w 1 v xs):Rd w v xs:=by obtain⟨A,n,c,rfl,q,l⟩:=h;exact⟨A,n,c,rfl,by omega,l⟩
theorem Own.k1 {w:World}{B:Nat}{e:TypeId}{v:Value}{xs:List Value}(h:Own w B e v xs):aK w B e 1 v xs:=by
 obtain⟨A,n,c,rfl,H,h | ⟨g,l,rfl,q,hg,C,F,I,G⟩⟩:=h;· exact⟨A,n,c,rfl,by omega,.inl h⟩
 · exact⟨_,n,c,rfl,by omega,.inr ⟨g,l,rfl,q,hg,C,F,by omega,by rw [Nat.mul_one];exact G⟩⟩
structure LK (α:Type) where
 T:TypeId
 k:Nat
 row:α->Value->List Value
 E:TypeId
 ek:Nat
 inn:α->List Value
 len:∀ a u,(row a u).length=k
 pos:0<k
 ne:E≠T
 one:∀ a u,u.oneCell'=true->∀ x ∈ row a u,x.oneCell'=true
section
variable {α:Type}{K:LK α}{w w':World}{B:Nat}{v:Value}{l:List α}{ps:List (α × Value)}
def LK.cells(K:LK α)(ps:List (α×Value)):List Value:=ps.flatMap fun p=>K.row p.1 p.2
theorem LK.cells_len(K:LK α)(ps:List (α×Value)):(K.cells ps).length=ps.length*K.k:=jW (fun p:α×Value=>K.row p.1 p.2) K.k (fun p=>K.len p.1 p.2) ps
theorem LK.cells_snoc(K:LK α)(ps:List (α×Value))(a:α)(u:Value):K.cells ps++K.row a u=K.cells (ps++[(a,u)]):=by simp [LK.cells]
theorem LK.cells_app(K:LK α)(ps l:List (α×Value)):K.cells (ps++l)=K.cells ps++K.cells l:=by simp [LK.cells]
theorem LK.cells_sing(K:LK α)(a:α)(u:Value):K.cells [(a,u)]=K.row a u:=by simp [LK.cells]
def RdX(K:LK α)(w:World)(v:Value)(l:List α):Prop:=∃ps:List (α×Value),ps.map Prod.fst=l/\RdK w K.k v (K.cells ps)/\∀p∈ps,RdK w K.ek p.2 (K.inn p.1)
def fU(K:LK α)(w:World)(B:Nat)(v:Value)(ps:List (α×Value)):Prop:=aK w B K.T K.k v (K.cells ps)/\∀p∈ps,aK w B K.E K.ek p.2 (K.inn p.1)
def iU(K:LK α)(w:World)(B:Nat)(v:Value)(l:List α):Prop:=∃ps:List (α×Value),ps.map Prod.fst=l/\fU K w B v ps
theorem RdX.ext(h:RdX K w v l)(e:Ext w w'):RdX K w' v l:=by obtain⟨ps,q,C,F⟩:=h;exact⟨ps,q,C.ext e,fun p G=>(F p G).ext e⟩
theorem fU.rd(h:fU K w B v ps):RdX K w v (ps.map Prod.fst):=⟨ps,rfl,h.1.rd,fun p l=>(h.2 p l).rd⟩
theorem iU.rd(h:iU K w B v l):RdX K w v l:=by obtain⟨ps,q,C⟩:=h;subst q;exact C.rd
theorem fU.ext(h:fU K w B v ps)(e:Ext w w'):fU K w' B v ps:=⟨h.1.ext e,fun p l=>(h.2 p l).ext e⟩
theorem fU.mono {B':Nat}(h:fU K w B v ps)(l:B'<=B):fU K w B' v ps:=⟨h.1.mono l,fun p q=>(h.2 p q).mono l⟩
theorem iU.ext(h:iU K w B v l)(e:Ext w w'):iU K w' B v l:=by obtain⟨ps,q,C⟩:=h;exact⟨ps,q,C.ext e⟩
theorem iU.mono {B':Nat}(h:iU K w B v l)(q:B'<=B):iU K w B' v l:=by obtain⟨ps,C,F⟩:=h;exact⟨ps,C,F.mono q⟩
theorem fU.empty(K:LK α)(w:World)(B:Nat)(A:Option Addr):fU K w B (.slice A 0 0) []:=⟨aK.empty _ _ _ _ _,fun p l=>(by cases l)⟩
theorem RdX.nil_(K:LK α)(w:World)(A:Option Addr):RdX K w (.slice A 0 0) []:=⟨[],rfl,RdK.nil_ _ _ _,fun p l=>(by cases l)⟩
theorem fU.gb {g T:Nat}{cs:Array Value}{fr:Nat×Nat}(h:fU K w B v ps)(hg:w.heap[g]?=some (.cells cs T fr))(q:K.T≠T)(C:K.E≠T)(e:w.grownBy w' (some g)):fU K w' B v ps:=⟨h.1.grown e (.inr (h.1.row_blk hg q)),fun p l=>(h.2 p l).grown e (.inr ((h.2 p l).row_blk hg C))⟩
theorem iU.gb {g T:Nat}{cs:Array Value}{fr:Nat×Nat}(h:iU K w B v l)(hg:w.heap[g]?=some (.cells cs T fr))(q:K.T≠T)(C:K.E≠T)(e:w.grownBy w' (some g)):iU K w' B v l:=by obtain⟨ps,F,G⟩:=h;exact⟨ps,F,G.gb hg q C e⟩
theorem fU.gbB {g:Nat}(h:fU K w B v ps)(hg:g<B)(e:w.grownBy w' (some g)):fU K w' B v ps:=⟨h.1.grown e (.inr fun q=>by have:=aZ h.1 _ q;omega),fun p l=>(h.2 p l).grown e (.inr fun q=>by have:=aZ (h.2 p l) _ q;omega)⟩
theorem iU.gbB {g:Nat}(h:iU K w B v l)(hg:g<B)(e:w.grownBy w' (some g)):iU K w' B v l:=by obtain⟨ps,q,C⟩:=h;exact⟨ps,q,C.gbB hg e⟩
theorem fU.grow {C l F:Nat}{v2:Value}{G:List Value}(h:fU K w B v ps)(o:aK w C l F v2 G)(H:l≠K.T)(I:l≠K.E)(e:w.grownBy w' (aQ v2)):fU K w' B v ps:=⟨h.1.grown e (o.row_ne h.1 H),fun p q=>(h.2 p q).grown e (o.row_ne (h.2 p q) I)⟩
theorem iU.grow {C q F:Nat}{v2:Value}{G:List Value}(h:iU K w B v l)(o:aK w C q F v2 G)(H:q≠K.T)(I:q≠K.E)(e:w.grownBy w' (aQ v2)):iU K w' B v l:=by obtain⟨ps,J,N⟩:=h;exact⟨ps,J,N.grow o H I e⟩
theorem fU.app {v' u:Value}{a:α}(h:fU K w B v ps)(hi:aK w B K.E K.ek u (K.inn a))(o:aK w' B K.T K.k v' (K.cells ps++K.row a u))(g:w.grownBy w' (aQ v)):fU K w' B v' (ps++[(a,u)]):=by
 refine⟨by rw [<- K.cells_snoc];exact o,fun p l=>?_⟩;rcases List.mem_append.1 l with l | l;· exact(h.2 p l).grown g (h.1.row_ne (h.2 p l) K.ne.symm)
 · rw [ah.1 l];exact hi.grown g (h.1.row_ne hi K.ne.symm)
theorem fU.setAt {A:Option Addr}{n c i:Nat}{a:α}{u:Value}(h:fU K w B (.slice A n c) ps)(H:aK w B K.E K.ek u (K.inn a))(hi:i<ps.length): ∃g,A=some ⟨g,0,none⟩/\B<=g/\w.there g (i*K.k) K.k/\g<w.heap.size/\(∃U,w.heap[g]?=some (.cells U K.T (0,0)))/\fU K (w.setCells g (i*K.k) (K.row a u)) B (.slice A n c) (ps.set i (a,u)):=by
 have ho:=h.1;obtain⟨A',n',c',e,I,W⟩:=ho;injection e with X C Y;subst X C Y;rw [K.cells_len]at I;obtain rfl:n=ps.length:=je K.pos I;rcases W with⟨h0,_⟩ | ⟨g,l,rfl,J,hg,N,a0,a1,ht⟩;· omega
 have a3:i*K.k+K.k<=c*K.k:=by rw [<- Nat.succ_mul];exact Nat.mul_le_mul_right _ (by omega)
 have O:=Gb.setCellsU g (K.row a u) (i*K.k) w;refine⟨g,rfl,J,fun j hj=>⟨?_,by simp [World.frozen?,hg]⟩,a9 hg,⟨_,hg⟩,?_,fun p q=>?_⟩;· rw [ae w g _ l _ _ hg];simp;omega
 · have e:ps=ps.take i++[ps[i]]++ps.drop (i+1):=(by rw [fc,List.singleton_append,<- List.drop_eq_getElem_cons hi,List.take_append_drop]);have C:ps.set i (a,u)=ps.take i++[(a,u)]++ps.drop (i+1):=(by rw [List.set_eq_take_append_cons_drop,ax hi,fc];rfl);have Q:l.toList=K.cells ps++l.toList.drop (ps.length*K.k):=(by rw [<- ht,List.take_append_drop]);generalize hR:l.toList.drop (ps.length*K.k)=R at Q;have hl:(K.cells (ps.take i)).length=i*K.k:=(by rw [K.cells_len,gc,Nat.min_eq_left (Nat.le_of_lt hi)]);have h':w.heap[g]?=some (.cells (K.cells (ps.take i)++K.row ps[i].1 ps[i].2++(K.cells (ps.drop (i+1))++R)).toArray K.T (0,0)):=(by rw [hg];congr 2;rw [<- Array.toArray_toList (xs:=l),Q];congr 1;(conv=>lhs;rw [e,K.cells_app,K.cells_app,K.cells_sing]);simp only [fc]);have F:=kF (K.row a u) (K.cells (ps.take i)) (K.cells (ps.drop (i+1))++R) w g (K.row ps[i].1 ps[i].2) K.T (0,0) h' (by rw [K.len,K.len]);rw [hl,<- fE]at F;have h3:(K.cells (ps.take i)++K.row a u++(K.cells (ps.drop (i+1))++R))=K.cells (ps.set i (a,u))++R:=(by rw [C,K.cells_app,K.cells_app,K.cells_sing];simp only [fc]);rw [h3]at F;have G:(K.cells (ps.set i (a,u))).length=ps.length*K.k:=(by rw [K.cells_len,List.length_set]);have a2:R.length=c*K.k - ps.length*K.k:=(by rw [<- hR,List.length_drop,Array.length_toList,a1]);have a4:ps.length*K.k<=c*K.k:=Nat.mul_le_mul_right _ N;refine⟨_,ps.length,c,rfl,G.symm,.inr ⟨g,_,rfl,J,F,N,a0,?_,?_⟩⟩;(· show(K.cells (ps.set i (a,u))++R).length=c*K.k;rw [cz,G,a2];omega);· show(K.cells (ps.set i (a,u))++R).take _=_;rw [<- G];exact List.take_left
 · rcases List.mem_or_eq_of_mem_set q with q | rfl;(· exact(h.2 p q).grown O (.inr ((h.2 p q).row_blk hg K.ne)));· exact H.grown O (.inr (H.row_blk hg K.ne))
theorem RdX.at_(h:RdX K w v l):∃A n c,v=.slice A n c/\n=l.length/\n<=c/\c<=maxLen/\∀(i:Nat)(a:α),l[i]?=some a->∃b o,A=some ⟨b,o,none⟩/\b<w.heap.size/\∃u,(∀(j:Nat)(x:Value),(K.row a u)[j]?=some x->w.cell? ⟨b,o+(i*K.k+j),none⟩=some x)/\RdK w K.ek u (K.inn a):=by
 obtain⟨ps,rfl,⟨A,n,c,rfl,C,I,J,N⟩,O⟩:=h;rw [K.cells_len]at C;obtain rfl:n=ps.length:=je K.pos C;refine⟨A,_,c,rfl,by rw [List.length_map],I,J,fun i a F=>?_⟩;rw [List.getElem?_map]at F;obtain⟨p,q,rfl⟩:=Option.map_eq_some_iff.1 F;have G:=(aq.1 q).1;obtain⟨b,o,rfl,Q⟩:=N (by omega);have key:∀(j:Nat)(x:Value),(K.row p.1 p.2)[j]?=some x->w.cell? ⟨b,o+(i*K.k+j),none⟩=some x:=fun j x H=>by refine Q _ _ ?_;have U:j<K.k:=(by rw [<- K.len p.1 p.2];exact(aq.1 H).1);have:=oK (fun p:α×Value=>K.row p.1 p.2) K.k (fun p=>K.len p.1 p.2) ps i G j U;rw [dg G]at q;rw [bc q]at this;exact this.trans H
 have W:b<w.heap.size:=by have X:0<(K.row p.1 p.2).length:=(by rw [K.len];exact K.pos);exact be w _ (key 0 _ (dg X))
 exact⟨b,o,rfl,W,p.2,key,O p (eu q)⟩
end
def cP(r:RV)(v:Value):List Value:=[.string (aD r.st),.int .i64 r.num,.int .i64 r.day,.int .i64 r.nxt,v,.int .i64 r.iss,.int .i64 r.e,.int .i64 r.s]
structure MA where
 st:List UInt8
 num:Int
 day:Int
 roots:List NC
 sg:NC
 e:Int
 s:Int
structure DF where
 kind:Int
 param:Int
 signer:Int
 fi:List UInt8
 la:List UInt8
structure DV where
 st:List UInt8
 num:Int
 day:Int
 defs:List DF
 sg:NC
 e:Int
 s:Int
def aY(d:DF):List Value:=[.int .i64 d.kind,.int .i64 d.param,.int .i64 d.signer,.string (aD d.fi),.string (aD d.la)]
def aX(l:List DF):List Value:=l.flatMap aY
theorem wH(d:DF):(aY d).length=5:=rfl
theorem eH(l:List DF):(aX l).length=l.length*5:=jW _ 5 wH l
theorem tJ(l:List DF):∀u∈aX l,u.oneCell'=true:=by intro u q;obtain⟨c,_,q⟩:=List.mem_flatMap.1 q;simp only [aY,List.mem_cons,List.not_mem_nil,or_false]at q;rcases q with rfl | rfl | rfl | rfl | rfl<;>rfl
def aS(m:MA)(v:Value):List Value:=[.string (aD m.st),.int .i64 m.num,.int .i64 m.day,v,.string (aD m.sg.st),.int .i64 m.sg.kind,.int .i64 m.sg.num,.int .i64 m.sg.iss,.int .i64 m.sg.own,.int .i64 m.sg.key,.int .i64 m.sg.fr,.int .i64 m.sg.un,.int .i64 m.sg.tqq,.int .i64 m.sg.e,.int .i64 m.sg.s,.int .i64 m.e,.int .i64 m.s]
def aE(m:DV)(v:Value):List Value:=[.string (aD m.st),.int .i64 m.num,.int .i64 m.day,v,.string (aD m.sg.st),.int .i64 m.sg.kind,.int .i64 m.sg.num,.int .i64 m.sg.iss,.int .i64 m.sg.own,.int .i64 m.sg.key,.int .i64 m.sg.fr,.int .i64 m.sg.un,.int .i64 m.sg.tqq,.int .i64 m.sg.e,.int .i64 m.sg.s,.int .i64 m.e,.int .i64 m.s]
def kR:LK RV:=⟨88,8,cP,3,1,fun r=>bH r.ser,fun _ _=>rfl,by decide,by decide,fun a u h x l=>by simp only [cP,List.mem_cons,List.not_mem_nil,or_false]at l;rcases l with rfl | rfl | rfl | rfl | rfl | rfl | rfl | rfl<;>first | exact h | rfl⟩
def kM:LK MA:=⟨86,17,aS,39,11,fun m=>aC m.roots,fun _ _=>rfl,by decide,by decide,fun a u h x l=>by simp only [aS,List.mem_cons,List.not_mem_nil,or_false]at l;rcases l with rfl | rfl | rfl | rfl | rfl | rfl | rfl | rfl | rfl | rfl | rfl | rfl | rfl | rfl | rfl | rfl | rfl<;>first | exact h | rfl⟩
def kD:LK DV:=⟨41,17,aE,65,5,fun m=>aX m.defs,fun _ _=>rfl,by decide,by decide,fun a u h x l=>by simp only [aE,List.mem_cons,List.not_mem_nil,or_false]at l;rcases l with rfl | rfl | rfl | rfl | rfl | rfl | rfl | rfl | rfl | rfl | rfl | rfl | rfl | rfl | rfl | rfl | rfl<;>first | exact h | rfl⟩
structure ST where
 roots:List NC
 pool:List NC
 ms:List MA
 rs:List RV
 ds:List DV
structure kv (w:World) (s0 s1 s2 s3 s4:dd) (S:ST):Prop where
 r0:RdN w (cd s0) S.roots
 r1:RdN w (cd s1) S.pool
 r2:RdX kM w (cd s2) S.ms
 r3:RdX kR w (cd s3) S.rs
 r4:RdX kD w (cd s4) S.ds
theorem kv.ext {w w':World}{s0 s1 l q C:dd}{S:ST}(h:kv w s0 s1 l q C S)(e:Ext w w'):kv w' s0 s1 l q C S:=⟨RdK.ext h.r0 e,RdK.ext h.r1 e,h.r2.ext e,h.r3.ext e,h.r4.ext e⟩
structure StO (w:World) (B:Nat) (s0 s1 s2 s3 s4:dd) (S:ST):Prop where
 o0:aK w B 39 11 (cd s0) (aC S.roots)
 o1:aK w B 39 11 (cd s1) (aC S.pool)
 o2:iU kM w B (cd s2) S.ms
 o3:iU kR w B (cd s3) S.rs
 o4:iU kD w B (cd s4) S.ds
theorem StO.ext {w w':World}{B:Nat}{s0 s1 l q C:dd}{S:ST}(h:StO w B s0 s1 l q C S)(e:Ext w w'):StO w' B s0 s1 l q C S:=⟨h.o0.ext e,h.o1.ext e,h.o2.ext e,h.o3.ext e,h.o4.ext e⟩
theorem StO.mono {w:World}{B B':Nat}{s0 s1 q C F:dd}{S:ST}(h:StO w B s0 s1 q C F S)(l:B'<=B):StO w B' s0 s1 q C F S:=⟨h.o0.mono l,h.o1.mono l,h.o2.mono l,h.o3.mono l,h.o4.mono l⟩
theorem StO.rd {w:World}{B:Nat}{s0 s1 l q C:dd}{S:ST}(h:StO w B s0 s1 l q C S):kv w s0 s1 l q C S:=⟨h.o0.rd,h.o1.rd,h.o2.rd,h.o3.rd,h.o4.rd⟩
theorem StO.gbB {w w':World}{B g:Nat}{s0 s1 l C F:dd}{S:ST}(h:StO w B s0 s1 l C F S)(hg:g<B)(e:w.grownBy w' (some g)):StO w' B s0 s1 l C F S:=⟨h.o0.grown e (.inr fun q=>by have:=aZ h.o0 _ q;omega),h.o1.grown e (.inr fun q=>by have:=aZ h.o1 _ q;omega),h.o2.gbB hg e,h.o3.gbB hg e,h.o4.gbB hg e⟩
def aN(s0 s1 l q C:dd):Array Value:=#[.slice s0.1 s0.2.1 s0.2.2,.slice s1.1 s1.2.1 s1.2.2,.slice l.1 l.2.1 l.2.2,.slice q.1 q.2.1 q.2.2,.slice C.1 C.2.1 C.2.2]
theorem bO(s0 s1 l q C:dd):(aN s0 s1 l q C).all (·.oneCell')=true:=by simp [aN,Value.oneCell']
theorem aO:(Tryz.prog.info? 31).map (·.size)=some 5:=by kernel_rfl
theorem d9:(Tryz.prog.info? 86).map (·.size)=some 17:=by kernel_rfl
theorem bE:(Tryz.prog.info? 41).map (·.size)=some 17:=by kernel_rfl
def jU(out:List NC)(c:NC):List NC:=if c∈out then out else out++[c]
def gE(out l:List NC):List NC:=l.foldl jU out
def dZ(S:ST):List NC:=S.ms.foldl (fun out m=>gE out m.roots) (gE [] S.roots)
theorem vE(out:List NC){l:List NC}{y:NC}{k:Nat}(h:l[k]?=some y):gE out (l.take (k+1))=jU (gE out (l.take k)) y:=by unfold gE;rw [gY h,List.foldl_append];rfl
theorem UF {out l:List NC}{c:NC}(h:c∈gE out l):c∈out\/c∈l:=by unfold gE at h;induction l generalizing out with | nil=>exact .inl h | cons x l q=>rcases q h with h | h;(· unfold jU at h;split at h;(· exact .inl h);· rcases List.mem_append.1 h with h | h;(· exact .inl h);· rw [ah.1 h];exact .inr fm);· exact .inr (io _ h)
theorem mZ(out l:List NC):(gE out l).length<=out.length+l.length:=by unfold gE;induction l generalizing out with | nil=>exact bh _ | cons x l q=>have h:=q (jU out x);have C:(jU out x).length<=out.length+1:=(by unfold jU;split;(· omega);· rw [cz];exact bh _);rw [List.foldl_cons,dq];omega
theorem OE {out l:List NC}(h:smL out)(k:smL l):smL (gE out l):=fun c q=>(UF q).elim (h c) (k c)
structure StB (S:ST):Prop where
 r:smL S.roots
 p:smL S.pool
 m:∀ x ∈ S.ms,smL x.roots/\x.roots.length<=10000
 s:∀ x ∈ S.rs,x.ser.length<=10000
 d:∀ x ∈ S.ds,x.defs.length<=10000
 lr:S.roots.length<=10000
 lp:S.pool.length<=10000
 lm:S.ms.length<=20
 ls:S.rs.length<=10000
 ld:S.ds.length<=10000
theorem zM:∀ (ms:List MA) (out:List NC),smL out->(∀ x ∈ ms,smL x.roots)->smL (ms.foldl (fun out m=>gE out m.roots) out)
 | [],out,h,_=>h
 | m::ms,out,h,k=>zM ms _ (OE h (k m fm)) fun x l=>k x (io _ l)
theorem pG:∀ (ms:List MA) (out:List NC),(∀ x ∈ ms,x.roots.length<=10000)->(ms.foldl (fun out m=>gE out m.roots) out).length<=out.length+ms.length*10000
 | [],out,_=>by simp
 | m::ms,out,k=>by
   have h:=pG ms (gE out m.roots) fun x l=>k x (io _ l)
   have q:=mZ out m.roots
   have C:=k m fm
   rw [List.foldl_cons,dq]
   omega
theorem StB.roots {S:ST}(h:StB S):smL (dZ S):=zM _ _ (OE (fun c l=>(by cases l)) h.r) fun x q=>(h.m x q).1
theorem StB.rlen {S:ST}(h:StB S):(dZ S).length<=210000:=by have F:=pG S.ms (gE [] S.roots) fun x l=>(h.m x l).2;have q:=mZ [] S.roots;have G:=h.lr;have C:=h.lm;unfold dZ;have H:S.ms.length*10000<=20*10000:=Nat.mul_le_mul_right _ C;rw [dn]at q;omega
def a0I(l:List NC)(r:RV):Int:=if(l.any fun c=>decide (c.own=r.iss)&&hM c.key (jd r) r.e r.s)=true then 0 else if(l.any fun c=>decide (c.own=r.iss))=true then 11 else 66
def tK(S:ST)(r:RV)(day:Int):Int:=if fy r=0 then a0I (dM (dZ S) S.pool r.st day) r else fy r
def accR(S:ST)(r:RV)(day:Int):ST×Int:=if fy r≠0 then(S,fy r)else if day<r.day then(S,64)else if tK S r day≠0 then(S,tK S r day)else match S.rs.findIdx? (fun t=>decide (t.st=r.st))with | some i=>if r.num<=(S.rs.getD i hO).num then(S,67)else(⟨S.roots,S.pool,S.ms,S.rs.set i r,S.ds⟩,0) | none=>if 16<=S.rs.length then(S,72)else(⟨S.roots,S.pool,S.ms,S.rs++[r],S.ds⟩,0)
theorem UG {l:List NC}{i:Int}{y:NC}{k:Nat}(h:l[k]?=some y):((l.take (k+1)).any fun c=>decide (c.own=i))=(((l.take k).any fun c=>decide (c.own=i))||decide (y.own=i)):=by rw [gY h,List.any_append];simp
def wV(l:List NC):Int:=if l.length<1\/16<l.length then 72 else match l.find? (fun c=>decide (ckN c≠0))with | some c=>ckN c | none=>if(l.all ik)=true then 0 else 61
def ii(c:NC)(st:List UInt8):Int:=if ckN c≠0 then ckN c else if c.kind≠4 then 61 else if c.st≠st then 68 else 0
def gn(m:MA):Int:=if¬cC m.st then 60 else if¬eF m.num then 3 else if¬(0<=m.day/\m.day<=73048)then 8 else if wV m.roots≠0 then wV m.roots else ii m.sg m.st
theorem OF {l:List NC}(h:wV l=0):(1<=l.length/\l.length<=16)/\∀c∈l,ckN c=0/\ik c=true:=by
 unfold wV at h;split at h;· cases h
 rename_i G;split at h;· rename_i c q;have:=List.find?_some q;exact absurd h (of_decide_eq_true this)
 rename_i C;split at h;· rename_i F;refine⟨by omega,fun c q=>⟨?_,List.all_eq_true.1 F c q⟩⟩;have:=List.find?_eq_none.1 C c q;simpa using this
 · cases h
theorem UH {m:MA}(h:gn m=0):cC m.st/\eF m.num/\(0<=m.day/\m.day<=73048)/\wV m.roots=0/\ii m.sg m.st=0:=by
 unfold gn at h;split at h;· cases h
 rename_i q;split at h;· cases h
 rename_i C;split at h;· cases h
 rename_i F;split at h;· rename_i l;exact absurd h l
 rename_i l;exact⟨Decidable.not_not.1 q,Decidable.not_not.1 C,Decidable.not_not.1 F,Decidable.not_not.1 l,h⟩
def gZ(m:MA):Nd:=.mk 49 [] (aU 19 m.st::aU 130 (ct m.num)::aU 134 (ee m.day)::m.roots.map fP)
def rR(m:MA):List UInt8:=cK 4 [gZ m]
def byM(m:MA):List UInt8:=if gn m=0 then rR m else []
theorem QG(m:MA):lZ 4 [gZ m]:=by refine bR (uU (by decide) (by decide) (by decide) (by decide) ?_) (iF _);refine bR (fC (by decide) (by decide) (by decide) (by decide)) ?_;refine bR (fC (by decide) (by decide) (by decide) (by decide)) ?_;refine bR (fC (by decide) (by decide) (by decide) (by decide)) ?_;intro t l;obtain⟨c,_,rfl⟩:=List.mem_map.1 l;exact SQ c _ (ah.2 rfl)
theorem D3:∀ l:List NC,bT 3 (l.map fP)=l.length*10
 | []=>rfl
 | c::l=>by
   have h:=D3 l
   have q:bT 3 [fP c]=10:=rfl
   have e:bT 3 ((c::l).map fP)=bT 3 [fP c]+bT 3 (l.map fP):=by
    show ((fP c::l.map fP).map _).sum=([fP c].map _).sum+((l.map fP).map _).sum
    simp
   rw [e,q,h,dq]
   omega
theorem zN {m:MA}(h:m.roots.length<=16):bT 4 [gZ m]<=256:=by
 have e:bT 4 [gZ m]=1+(3+bT 3 (m.roots.map fP)):=by show([gZ m].map _).sum=1+(3+((m.roots.map fP).map _).sum);simp [gZ,aU,Nd.kids,bT];omega
 rw [e,D3];omega
theorem D4:∀ l:List NC,(∀ c ∈ l,c.st.length<=3)->fL 3 (l.map fP)<=l.length*37
 | [],_=>bh _
 | c::l,k=>by
   have h:=D4 l fun x q=>k x (io _ q)
   have F:=k c fm
   have C:fL 3 [fP c]=c.st.length+34:=by
    simp only [fL,fP,fO,aU,qW,Nd.val,Nd.kids,List.map_cons,List.map_nil,List.sum_cons,List.sum_nil,cz,dn,dq,ct,ee]
    omega
   have e:fL 3 ((c::l).map fP)=fL 3 [fP c]+fL 3 (l.map fP):=by
    show ((fP c::l.map fP).map _).sum=([fP c].map _).sum+((l.map fP).map _).sum
    simp
   rw [e,C,dq]
   omega
theorem wI {m:MA}(h:gn m=0):(cK 4 [gZ m]).length<=4096:=by
 obtain⟨l,_,_,q,_⟩:=UH h;obtain⟨⟨_,C⟩,F⟩:=OF q;have l:=l.1.2;have k:=lE 4 [gZ m];have c1:=zN (m:=m) C;have v1:=D4 m.roots fun c G=>(mJ (F c G).1).1.1.2;have e:fL 4 [gZ m]=m.st.length+7+fL 3 (m.roots.map fP):=by show([gZ m].map _).sum=m.st.length+7+((m.roots.map fP).map _).sum;simp [gZ,aU,Nd.kids,Nd.val,fL,ct,ee];omega
 omega
def lW(x:Int):Prop:=gg x\/jo x
instance(x:Int):Decidable (lW x):=inferInstanceAs(Decidable (_\/_))
def gM(l:List UInt8):Prop:=(1<=l.length/\l.length<=20)/\∀i,i<l.length->lW (cA l i)
instance(l:List UInt8):Decidable (gM l):=inferInstanceAs(Decidable (_/\_))
theorem rC {l:List UInt8}(h:l.length<1):decide (gM l)=false:=aw fun q=>by have:=q.1.1;omega
theorem tL {l:List UInt8}(h:20<l.length):decide (gM l)=false:=aw fun q=>by have:=q.1.2;omega
theorem zO {l:List UInt8}(i:Nat)(hi:i<l.length)(h:¬lW (cA l i)):decide (gM l)=false:=aw fun q=>h (q.2 i hi)
theorem IC {l:List UInt8}(q:1<=l.length)(C:l.length<=20)(F:∀i,i<l.length->lW (cA l i)):decide (gM l)=true:=ay ⟨⟨q,C⟩,F⟩
def nB(a b:List UInt8):Bool:=if a.length=b.length then Op.bytesLess a b else decide (a.length<b.length)
theorem pH:∀ a b:List UInt8,Op.bytesLess b a=!(Op.bytesLess a b || (a == b))
 | [],[]=>rfl
 | [],_::_=>rfl
 | _::_,[]=>rfl
 | x::a,y::b=>by
   have h:=pH a b
   simp only [Op.bytesLess]
   have e:((x::a) == (y::b))=((x == y) && (a == b)):=rfl
   rw [e,h]
   by_cases h1:x=y
   · subst h1
     simp
   · have C:(x == y)=false:=by simpa using h1
     have F:(y == x)=false:=by simpa using Ne.symm h1
     rw [C,F]
     simp only [Bool.false_and,Bool.or_false]
     have l:y<x ↔ ¬ x<y:=by
      constructor
      · intro h;exact fun q=>absurd (UInt8.lt_trans h q) (UInt8.lt_irrefl _)
      · intro h
        have:=UInt8.not_lt.1 h
        exact UInt8.lt_of_le_of_ne this (Ne.symm h1)
     by_cases h5:x<y
     · simp [h5,l]
     · simp [h5,l]
def tM(a b:List UInt8):Int:=if a.length<b.length then -1 else if b.length<a.length then 1 else if Op.bytesLess a b=true then -1 else if a=b then 0 else 1
theorem zP(a b:List UInt8):decide (tM a b<0)=nB a b:=by
 unfold tM nB;by_cases h1:a.length<b.length;· rw [ax h1,ao (show¬(a.length=b.length)by omega),ay h1];rfl
 · rw [ao h1];by_cases h2:b.length<a.length;(· rw [ax h2,ao (show¬(a.length=b.length)by omega),aw h1];rfl);· rw [ao h2,ax (show a.length=b.length by omega)];cases l:Op.bytesLess a b with | true=>rfl | false=>rw [ao (show¬(false=true)by decide)];split<;>rfl
theorem ID(a b:List UInt8):decide (tM a b<=0)=!nB b a:=by
 unfold tM nB;by_cases h1:a.length<b.length;· rw [ax h1,ao (show¬(b.length=a.length)by omega),aw (by omega:¬b.length<a.length)];rfl
 · rw [ao h1];by_cases h2:b.length<a.length;(· rw [ax h2,ao (show¬(b.length=a.length)by omega),ay h2];rfl);· rw [ao h2,ax (show b.length=a.length by omega),pH a b];cases l:Op.bytesLess a b with | true=>rfl | false=>rw [ao (show¬(false=true)by decide)];by_cases h4:a=b;(· rw [ax h4];subst h4;simp);· rw [ao h4];simp [h4]
def dfG(d:DF):Bool:=decide (d.kind=1)||decide (d.kind=2)
def ff(d:DF):Int:=if d.kind<1\/5<d.kind then 61 else if((dfG d&&(decide (d.param<1)||decide (16<d.param)))||(!dfG d&&decide (d.param≠0))|| !decide (eF d.signer))=true then 3 else if(!decide (gM d.fi)|| !decide (gM d.la)||nB d.la d.fi)=true then 1 else 0
def vF(l:List DF):Int:=match l.find? (fun d=>decide (ff d≠0))with | some d=>ff d | none=>0
def dz(d:DV):Int:=if¬cC d.st then 60 else if¬eF d.num then 3 else if¬(0<=d.day/\d.day<=73048)then 8 else if 32<d.defs.length then 72 else if vF d.defs≠0 then vF d.defs else ii d.sg d.st
def gP(d:DF):Bool:=(dfG d&&(decide (d.param<1)||decide (16<d.param)))||(!dfG d&&decide (d.param≠0))|| !decide (eF d.signer)
def iN(d:DF):Bool:=!decide (gM d.fi)|| !decide (gM d.la)||nB d.la d.fi
theorem tN {d:DF}(h:d.kind<1\/5<d.kind):ff d=61:=ax h
theorem fX {d:DF}(h:¬(d.kind<1\/5<d.kind))(q:gP d=true):ff d=3:=by unfold ff;rw [ao h];exact ax q
theorem fG {d:DF}(h:¬(d.kind<1\/5<d.kind))(q:gP d=false)(r:iN d=true):ff d=1:=by unfold ff;rw [ao h];show(if gP d=true then(3:Int)else if iN d=true then 1 else 0)=1;rw [ao (show¬(gP d=true)by rw [q];decide)];exact ax r
theorem kG {d:DF}(h:¬(d.kind<1\/5<d.kind))(q:gP d=false)(r:iN d=false):ff d=0:=by unfold ff;rw [ao h];show(if gP d=true then(3:Int)else if iN d=true then 1 else 0)=0;rw [ao (show¬(gP d=true)by rw [q];decide)];exact ao (show¬(iN d=true)by rw [r];decide)
theorem xG {l:List DF}{d:DF}{k:Nat}(q:l[k]?=some d)(F:ff d≠0)(C:∀(j:Nat)(x:DF),j<k->l[j]?=some x->ff x=0):vF l=ff d:=by
 have:l.find? (fun d=>decide (ff d≠0))=some d:=by induction l generalizing k with | nil=>simp at q | cons y l G=>cases k with | zero=>have:y=d:=(by simpa using q);subst this;rw [List.find?_cons_of_pos (by simpa using F)] | succ k=>have H:=C 0 y (Nat.zero_lt_succ _) rfl;rw [List.find?_cons_of_neg (by simpa using H)];exact G (by simpa using q) (fun j x I J=>C (j+1) x (Nat.succ_lt_succ I) (by simpa using J))
 unfold vF;rw [this]
theorem tO {l:List DF}(C:∀(j:Nat)(x:DF),j<l.length->l[j]?=some x->ff x=0):vF l=0:=by
 have:l.find? (fun d=>decide (ff d≠0))=none:=by rw [List.find?_eq_none];intro x F;obtain⟨j,q⟩:=List.getElem?_of_mem F;have:=C j x (aq.1 q).1 q;simp [this]
 unfold vF;rw [this]
theorem qI {l:List DF}(h:vF l=0):∀d∈l,ff d=0:=by
 unfold vF at h;split at h;· rename_i d q;have:=List.find?_some q;exact absurd h (of_decide_eq_true this)
 · rename_i C;intro d q;have:=List.find?_eq_none.1 C d q;simpa using this
theorem EF {d:DF}(h:ff d=0):gM d.fi/\gM d.la:=by
 unfold ff at h;split at h;· cases h
 split at h;· cases h
 split at h;· cases h
 rename_i q;by_cases h1:gM d.fi;· by_cases h2:gM d.la;(· exact⟨h1,h2⟩);· exact absurd (by simp [h2]) q
 · exact absurd (by simp [h1]) q
theorem OG {d:DF}(h:ff d=0):eF d.signer:=by
 unfold ff at h;split at h;· cases h
 split at h;· cases h
 rename_i q;by_cases h1:eF d.signer;· exact h1
 · exact absurd (by simp [h1]) q
theorem M1 {d:DV}(h:dz d=0):cC d.st/\eF d.num/\(0<=d.day/\d.day<=73048)/\d.defs.length<=32/\vF d.defs=0/\ii d.sg d.st=0:=by
 unfold dz at h;split at h;· cases h
 rename_i q;split at h;· cases h
 rename_i C;split at h;· cases h
 rename_i F;split at h;· cases h
 rename_i G;split at h;· rename_i l;exact absurd h l
 rename_i l;exact⟨Decidable.not_not.1 q,Decidable.not_not.1 C,Decidable.not_not.1 F,by omega,Decidable.not_not.1 l,h⟩
def fo(d:DF):Nd:=.mk 48 [] [aU 129 [u8 d.kind,u8 d.param],aU 131 (ct d.signer),aU 132 d.fi,aU 133 d.la]
def eW(d:DV):Nd:=.mk 49 [] (aU 19 d.st::aU 130 (ct d.num)::aU 134 (ee d.day)::d.defs.map fo)
def jB(d:DV):List UInt8:=cK 4 [eW d]
def iu(d:DV):List UInt8:=if dz d=0 then jB d else []
theorem a0J(d:DF):∀n,lZ (n+2) [fo d]:=fun n=>by refine bR (uU (by decide) (by decide) (by decide) (by decide) ?_) (iF _);refine bR (fC (by decide) (by decide) (by decide) (by decide)) ?_;refine bR (fC (by decide) (by decide) (by decide) (by decide)) ?_;refine bR (fC (by decide) (by decide) (by decide) (by decide)) ?_;exact bR (fC (by decide) (by decide) (by decide) (by decide)) (iF _)
theorem D5(d:DV):lZ 4 [eW d]:=by refine bR (uU (by decide) (by decide) (by decide) (by decide) ?_) (iF _);refine bR (fC (by decide) (by decide) (by decide) (by decide)) ?_;refine bR (fC (by decide) (by decide) (by decide) (by decide)) ?_;refine bR (fC (by decide) (by decide) (by decide) (by decide)) ?_;intro t l;obtain⟨c,_,rfl⟩:=List.mem_map.1 l;exact a0J c 1 _ (ah.2 rfl)
theorem EG:∀ l:List DF,bT 3 (l.map fo)=l.length*5
 | []=>rfl
 | c::l=>by
   have h:=EG l
   have q:bT 3 [fo c]=5:=rfl
   have e:bT 3 ((c::l).map fo)=bT 3 [fo c]+bT 3 (l.map fo):=by
    show ((fo c::l.map fo).map _).sum=([fo c].map _).sum+((l.map fo).map _).sum
    simp
   rw [e,q,h,dq]
   omega
theorem rS {d:DV}(h:d.defs.length<=32):bT 4 [eW d]<=256:=by
 have e:bT 4 [eW d]=1+(3+bT 3 (d.defs.map fo)):=by show([eW d].map _).sum=1+(3+((d.defs.map fo).map _).sum);simp [eW,aU,Nd.kids,bT];omega
 rw [e,EG];omega
theorem OH:∀ l:List DF,(∀ c ∈ l,c.fi.length<=20/\c.la.length<=20)->fL 3 (l.map fo)<=l.length*46
 | [],_=>bh _
 | c::l,k=>by
   have h:=OH l fun x q=>k x (io _ q)
   obtain ⟨F,G⟩:=k c fm
   have C:fL 3 [fo c]=c.fi.length+c.la.length+6:=by
    simp only [fL,fo,aU,Nd.val,Nd.kids,List.map_cons,List.map_nil,List.sum_cons,List.sum_nil,dn,dq,ct]
    omega
   have e:fL 3 ((c::l).map fo)=fL 3 [fo c]+fL 3 (l.map fo):=by
    show ((fo c::l.map fo).map _).sum=([fo c].map _).sum+((l.map fo).map _).sum
    simp
   rw [e,C,dq]
   omega
theorem pI {d:DV}(h:dz d=0):(cK 4 [eW d]).length<=4096:=by
 obtain⟨l,_,_,F,q,_⟩:=M1 h;have l:=l.1.2;have k:=lE 4 [eW d];have c1:=rS (d:=d) F;have c2:bT 4 [eW d]=1+(3+bT 3 (d.defs.map fo)):=by show([eW d].map _).sum=1+(3+((d.defs.map fo).map _).sum);simp [eW,aU,Nd.kids,bT];omega
 rw [EG]at c2;have v1:=OH d.defs fun c C=>⟨(EF (qI q c C)).1.1.2,(EF (qI q c C)).2.1.2⟩;have e:fL 4 [eW d]=d.st.length+7+fL 3 (d.defs.map fo):=by show([eW d].map _).sum=d.st.length+7+((d.defs.map fo).map _).sum;simp [eW,aU,Nd.kids,Nd.val,fL,ct,ee];omega
 omega
def nC(d:DF)(signer:Int)(number:List UInt8):Bool:=decide (d.signer=signer)&&(!nB number d.fi&& !nB d.la number)
def jz(l:List DV)(st:List UInt8):Option DV:=l.find? fun d=>decide (d.st=st)
def nX(l:List DV)(st:List UInt8)(signer:Int)(number:List UInt8):List DF:=match jz l st with | none=>[] | some d=>if gM number then d.defs.filter fun x=>nC x signer number else []
set_option maxHeartbeats 1000000 in theorem UI(s:ByteArray)(w:World)(O:s.size<=maxLen):Calls Tryz.prog 44 #[.string s] w fun e w'=>e=.returned (.bool (decide (gM s.data.toList)))/\w=w':=by
 unfold maxLen at O;have C:s.data.toList.length=s.size:=by simp
 by_cases h1:s.size<1;· have q:=ab (rC (l:=s.data.toList) (by omega));clear C;go_in;go_wp2;go_ret;exact⟨by rw [q];rfl,rfl⟩
 by_cases h20:20<s.size;· have q:=ab (tL (l:=s.data.toList) (by omega));clear C;go_in;go_wp2;go_ret;exact⟨by rw [q];rfl,rfl⟩
 have F:=ab C;clear C;go_in;go_wp2;go_loop [3,14](fun _ i=>∃k:Nat,k<=s.size/\i=.int .i64 (k:Int)/\∀j,j<k->lW (cA s.data.toList j))(fun _ i=>s.size - (intOf i).toNat);case atStart=>exact⟨0,de _,rfl,fun j H=>absurd H (by omega)⟩
 case round=>obtain⟨k,U,rfl,I⟩:=hrel;have J:=ab I;clear I;by_cases hlt:k<s.size;(· have K:=ab (NT hlt);have W:(s[k].toNat:Int)<256:=(by have:=UInt8.toNat_lt s[k];omega);have N:=ab (fun(h:lW (s[k].toNat:Int))=>(fun j H=>by by_cases hjk:j<k;(· exact J j hjk);· obtain rfl:j=k:=(by omega);rw [K];exact h:∀j,j<k+1->lW (cA s.data.toList j)));have G:=ab (fun(h:¬lW (s[k].toNat:Int))=>zO (l:=s.data.toList) k (by rw [F];exact hlt) (by rw [K];exact h));by_cases c1:(s[k].toNat:Int)<65;(· by_cases c3:(s[k].toNat:Int)<48;(· have q:=ab (G (by unfold lW gg jo;omega));go_wp2;go_ret;exact⟨by rw [q];rfl,rfl⟩);· by_cases c4:57<(s[k].toNat:Int);(· have q:=ab (G (by unfold lW gg jo;omega));go_wp2;go_ret;exact⟨by rw [q];rfl,rfl⟩);· have q:=ab (N (by unfold lW gg jo;omega));go_wp2;go_round;(case rel=>exact⟨k+1,by omega,by go_num,q⟩);case measure=>simp [intOf];omega);· by_cases c2:90<(s[k].toNat:Int);(· have c3:¬(s[k].toNat:Int)<48:=(by omega);have c4:57<(s[k].toNat:Int):=(by omega);have q:=ab (G (by unfold lW gg jo;omega));go_wp2;go_ret;exact⟨by rw [q];rfl,rfl⟩);· have q:=ab (N (by unfold lW gg jo;omega));go_wp2;go_round;(case rel=>exact⟨k+1,by omega,by go_num,q⟩);case measure=>simp [intOf];omega);· obtain rfl:k=s.size:=(by omega);have q:=ab (IC (l:=s.data.toList) (by rw [F];omega) (by rw [F];omega) (fun i Q=>J i (by rw [<- F];exact Q)));go_wp2;go_ret;exact⟨by rw [q];rfl,rfl⟩
set_option maxHeartbeats 1000000 in theorem IE(s:ByteArray)(w:World)(O:s.size<=maxLen):Calls Tryz.prog 46 #[.string s] w fun e w'=>e=.returned (.bool (decide (gM s.data.toList)))/\w=w':=by
 unfold maxLen at O;have G:s.data.toList.length=s.size:=by simp
 have C:=ab G;clear G;go_in;go_wp2;go_loop [3](fun i=>∃k:Nat,k<=s.size/\i=.int .i64 (k:Int)/\∀j,j<k->lW (cA s.data.toList j))(fun i=>s.size - (intOf i).toNat);case atStart=>exact⟨0,de _,rfl,fun j H=>absurd H (by omega)⟩
 case round=>obtain⟨k,U,rfl,I⟩:=hrel;have J:=ab I;clear I;by_cases hlt:k<s.size;(· have K:=ab (NT hlt);have W:(s[k].toNat:Int)<256:=(by have:=UInt8.toNat_lt s[k];omega);have N:=ab (fun(h:lW (s[k].toNat:Int))=>(fun j H=>by by_cases hjk:j<k;(· exact J j hjk);· obtain rfl:j=k:=(by omega);rw [K];exact h:∀j,j<k+1->lW (cA s.data.toList j)));have F:=ab (fun(h:¬lW (s[k].toNat:Int))=>zO (l:=s.data.toList) k (by rw [C];exact hlt) (by rw [K];exact h));by_cases c1:(s[k].toNat:Int)<65;(· by_cases c3:(s[k].toNat:Int)<48;(· have q:=ab (F (by unfold lW gg jo;omega));go_wp2;go_ret;exact⟨by rw [q];rfl,rfl⟩);· by_cases c4:57<(s[k].toNat:Int);(· have q:=ab (F (by unfold lW gg jo;omega));go_wp2;go_ret;exact⟨by rw [q];rfl,rfl⟩);· have q:=ab (N (by unfold lW gg jo;omega));go_wp2;go_round;(case rel=>exact⟨k+1,by omega,by go_num,q⟩);case measure=>simp [intOf];omega);· by_cases c2:90<(s[k].toNat:Int);(· have c3:¬(s[k].toNat:Int)<48:=(by omega);have c4:57<(s[k].toNat:Int):=(by omega);have q:=ab (F (by unfold lW gg jo;omega));go_wp2;go_ret;exact⟨by rw [q];rfl,rfl⟩);· have q:=ab (N (by unfold lW gg jo;omega));go_wp2;go_round;(case rel=>exact⟨k+1,by omega,by go_num,q⟩);case measure=>simp [intOf];omega);· obtain rfl:k=s.size:=(by omega);by_cases h1:1<=s.size;(· by_cases h2:s.size<=20;(· have q:=ab ((IC (l:=s.data.toList) (by rw [C];omega) (by rw [C];omega) (fun i Q=>J i (by rw [<- C];exact Q))).trans (ay (show(s.size:Int)<=20 by omega)).symm);go_wp2;go_ret;exact⟨by rw [q];rfl,rfl⟩);· have q:=ab ((tL (l:=s.data.toList) (by rw [C];omega)).trans (aw (show¬(s.size:Int)<=20 by omega)).symm);go_wp2;go_ret;exact⟨by rw [q];rfl,rfl⟩);· have q:=ab (rC (l:=s.data.toList) (by rw [C];omega));go_wp2;go_ret;exact⟨by rw [q];rfl,rfl⟩
theorem EH(l:List UInt8)(w:World)(q:l.length<=maxLen):Calls Tryz.prog 44 #[.string (aD l)] w fun e w'=>e=.returned (.bool (decide (gM l)))/\w=w' :=UI (aD l) w (by show l.toArray.size<=_;simpa using q)
theorem rT(l:List UInt8)(w:World)(q:l.length<=maxLen):Calls Tryz.prog 46 #[.string (aD l)] w fun e w'=>e=.returned (.bool (decide (gM l)))/\w=w' :=IE (aD l) w (by show l.toArray.size<=_;simpa using q)
def oH(x y:Int):Int:=if x<y then -1 else if y<x then 1 else 0
def wW(a b:List UInt8):Int:=if Op.bytesLess a b=true then -1 else if a=b then 0 else 1
theorem YI {x y:Int}(h:x<y):oH x y=-1:=ax h
theorem YJ {x y:Int}(h:y<x):oH x y=1:=by unfold oH;rw [ao (show¬x<y by omega),ax h]
theorem YK {x y:Int}(h:x=y):oH x y=0:=by unfold oH;rw [ao (show¬x<y by omega),ao (show¬y<x by omega)]
theorem YL(a b:List UInt8):tM a b=if oH a.length b.length=0 then wW a b else oH a.length b.length:=by
 unfold tM;by_cases h1:a.length<b.length;· rw [ax h1,YI (show(a.length:Int)<(b.length:Int)by omega)];rfl
 · rw [ao h1];by_cases h2:b.length<a.length;(· rw [ax h2,YJ (show(b.length:Int)<(a.length:Int)by omega)];rfl);· rw [ao h2,YK (show(a.length:Int)=(b.length:Int)by omega),ax rfl];rfl
theorem UJ(x:Int)(w:World):Calls Tryz.prog 129 #[.int .i64 x] w fun e w'=>e=.returned (.bool false)/\w=w':=by
 have h:(x !=x)=false:=by simp
 go_in;go_wp2;go_ret;exact⟨by first | rfl | (rw [h]),rfl⟩
theorem UK(x:ByteArray)(w:World):Calls Tryz.prog 130 #[.string x] w fun e w'=>e=.returned (.bool false)/\w=w':=by
 have h:(x.toList !=x.toList)=false:=by simp
 go_in;go_wp2;go_ret;exact⟨by first | rfl | (rw [h]) | simp,rfl⟩
theorem UL(x y:Int)(w:World):Calls Tryz.prog 90 #[.int .i64 x,.int .i64 y] w fun e w'=>e=.returned (.int .i64 (oH x y))/\w=w':=by
 have F:=ab UJ;obtain⟨K,q⟩:∃K,oH x y=K:=⟨_,rfl⟩;rw [q];have C:=ab q;clear q;go_in;go_wp2_with fail;refine(F _ _).mono ?_;rintro e G⟨rfl,rfl⟩;go_wp2_with fail;refine(F _ _).mono ?_;rintro e G⟨rfl,rfl⟩;by_cases h1:x<y;· have l:=ab (show K=-1 by rw [<- C];exact ax h1);go_wp2_with fail;go_ret;exact⟨by rw [l];rfl,rfl⟩
 · by_cases h2:y<x;(· have l:=ab (show K=1 by rw [<- C];unfold oH;rw [ao h1,ax h2]);go_wp2_with fail;go_ret;exact⟨by rw [l];rfl,rfl⟩);· have l:=ab (show K=0 by rw [<- C];unfold oH;rw [ao h1,ao h2]);go_wp2_with fail;go_ret;exact⟨by rw [l];rfl,rfl⟩
theorem iQ(l:List UInt8):(aD l).toList=l:=by unfold aD;simp
theorem kH {P:Program}(t:TypeId)(a b:ByteArray)(W:World):(binOp .gtr t (.string a) (.string b)).run P W=.ok (.bool (!(Op.bytesLess a.toList b.toList||a.toList==b.toList))) W:=by unfold binOp;simp [Op.stringOp]
theorem UM(a b:List UInt8)(w:World):Calls Tryz.prog 91 #[.string (aD a),.string (aD b)] w fun e w'=>e=.returned (.int .i64 (wW a b))/\w=w':=by have N:=ab UK;obtain⟨K,G⟩:∃K,wW a b=K:=⟨_,rfl⟩;rw [G];have H:=ab G;clear G;have C:=ab (iQ a);have F:=ab (iQ b);go_in;go_wp2_with fail;refine(N _ _).mono ?_;rintro e O⟨rfl,rfl⟩;go_wp2_with fail;refine(N _ _).mono ?_;rintro e O⟨rfl,rfl⟩;cases l:Op.bytesLess a b with | true=>have q:=ab (show K=-1 by rw [<- H];exact ax l);have I:Op.bytesLess (aD a).toList (aD b).toList=true:=(by rw [C,F];exact l);clear l;go_wp2_with fail;go_ret;exact⟨by rw [q];rfl,rfl⟩ | false=>have I:Op.bytesLess (aD a).toList (aD b).toList=false:=(by rw [C,F];exact l);by_cases h2:a=b;(· have q:=ab (show K=0 by rw [<- H];unfold wW;rw [ao (by rw [l];decide),ax h2]);have J:((aD a).toList==(aD b).toList)=true:=(by rw [C,F];simpa using h2);have Q:∀W:World,(binOp .gtr 9 (.string (aD a)) (.string (aD b))).run Tryz.prog W=.ok (.bool false) W:=fun W=>(by rw [kH,I,J];rfl);clear l h2;go_wp2_with fail;go_ret;exact⟨by rw [q];rfl,rfl⟩);· have q:=ab (show K=1 by rw [<- H];unfold wW;rw [ao (by rw [l];decide),ao h2]);have J:((aD a).toList==(aD b).toList)=false:=(by rw [C,F];simpa using h2);have Q:∀W:World,(binOp .gtr 9 (.string (aD a)) (.string (aD b))).run Tryz.prog W=.ok (.bool true) W:=fun W=>(by rw [kH,I,J];rfl);clear l h2;go_wp2_with fail;go_ret;exact⟨by rw [q];rfl,rfl⟩
theorem rU(a b:List UInt8)(w:World)(G:a.length<=maxLen)(H:b.length<=maxLen):Calls Tryz.prog 47 #[.string (aD a),.string (aD b)] w fun e w'=>e=.returned (.bool (nB a b))/\w=w':=by
 obtain⟨K,q⟩:∃K,nB a b=K:=⟨_,rfl⟩;rw [q];have F:=ab q;clear q;have I:=ab (iQ a);have J:=ab (iQ b);have l:(aD a).size=a.length:=by unfold aD;simp [ByteArray.size]
 have sb:(aD b).size=b.length:=by unfold aD;simp [ByteArray.size]
 unfold maxLen at G H;by_cases h1:a.length=b.length;· have C:=ab (show K=Op.bytesLess (aD a).toList (aD b).toList by rw [<- F,I,J];exact ax h1);have N:(((aD a).size:Int)!=((aD b).size:Int))=false:=(by simp [l,sb,h1]);clear h1 l sb;go_in;go_wp2_with fail;go_ret;exact⟨by rw [C];rfl,rfl⟩
 · have C:=ab (show K=decide ((aD a).size<(aD b).size)by rw [<- F];unfold nB;rw [ao h1,l,sb]);have N:(((aD a).size:Int)!=((aD b).size:Int))=true:=(by have:((a.length:Int))≠(b.length:Int):=(by omega);simpa [l,sb]using this);clear h1 l sb;go_in;go_wp2_with fail;go_ret;exact⟨by rw [C];rfl,rfl⟩
def orL(l:List Int):Int:=match l.find? (fun x=>decide (x≠0))with | some x=>x | none=>0
theorem M2 {l:List Int}{x:Int}{k:Nat}(q:l[k]?=some x)(C:x≠0)(F:∀(j:Nat)(y:Int),j<k->l[j]?=some y->y=0):orL l=x:=by
 have:l.find? (fun x=>decide (x≠0))=some x:=by induction l generalizing k with | nil=>simp at q | cons y l G=>cases k with | zero=>have:y=x:=(by simpa using q);subst this;rw [List.find?_cons_of_pos (by simpa using C)] | succ k=>have H:=F 0 y (Nat.zero_lt_succ _) rfl;rw [List.find?_cons_of_neg (by simpa using H)];exact G (by simpa using q) (fun j x I C=>F (j+1) x (Nat.succ_lt_succ I) (by simpa using C))
 unfold orL;rw [this]
theorem a0K {l:List Int}(C:∀(j:Nat)(y:Int),j<l.length->l[j]?=some y->y=0):orL l=0:=by
 have:l.find? (fun x=>decide (x≠0))=none:=by rw [List.find?_eq_none];intro x F;obtain⟨j,q⟩:=List.getElem?_of_mem F;have:=C j x (aq.1 q).1 q;simp [this]
 unfold orL;rw [this]
theorem YM(x y:Int):orL [x,y]=if x=0 then y else x:=by
 by_cases h:x=0;· rw [ax h];by_cases h2:y=0;(· subst h h2;rfl);· exact M2 (k:=1) rfl h2 fun j z l q=>by obtain rfl:j=0:=(by omega);have:x=z:=(by simpa using q);omega
 · rw [ao h];exact M2 (k:=0) rfl h fun j z l=>by omega
set_option maxHeartbeats 1000000 in theorem a0L {v:Value}{l:List Int}(w:World)(J:fh w .i64 v l):Calls Tryz.prog 89 #[v] w (eP w (.int .i64 (orL l))):=by
 obtain⟨A,n,c,rfl,U,a0,W,K⟩:=J.ints;subst U;unfold maxLen at W;have X:=ab K;clear J K;obtain⟨r,F⟩:∃r,orL l=r:=⟨_,rfl⟩;rw [F];have N:=ab F;clear F;go_in;go_wp2;go_loopw [5,8](fun _ i wr=>∃j:Nat,j<=l.length/\i=.int .i64 (j:Int)/\Ext w wr/\Hid (∀(i:Nat)(u:Int),i<j->l[i]?=some u->u=0))(fun _ i _=>l.length - (intOf i).toNat);case atStart=>exact⟨0,de _,rfl,aa _ _,ab (fun i u h=>by omega)⟩
 case round=>obtain⟨j,hj,rfl,C,G⟩:=hrel;by_cases hlt:j<l.length;(· obtain⟨t,H⟩:∃t,l[j]?=some t:=⟨_,dg hlt⟩;obtain⟨b,o,rfl,Y,O⟩:=X (by omega);have l0:=(C.cell (p:=⟨b,o+j,none⟩) Y).trans (O j hlt);rw [show l.getD j 0=t by rw [bj,H];rfl]at l0;have Q:=ab H;clear O H;have a1:IntKind.i64.wrap ((j:Int))=(j:Int):=ag _ (by omega);have a2:(0:Int)<=(j:Int):=(by omega);have a3:(j:Int)<(l.length:Int):=(by omega);have a4:((j:Int)).toNat=j:=(by omega);by_cases hq:t=0;(· have q:=ab (fun(i:Nat)(u:Int)(hi:i<j+1)(I:l[i]?=some u)=>(by by_cases h:i=j;(· subst h;rw [Q]at I;rw [<- bc I];exact hq);· exact G i u (by omega) I:u=0));have hb:(t !=0)=false:=(by simpa using hq);clear hq;go_wp2_with fail;go_roundw;(case rel=>exact⟨j+1,by omega,by go_num,C,q⟩);case measure=>simp [intOf];omega);· have q:=ab (show r=t by rw [<- N];exact M2 Q hq G);have hb:(t !=0)=true:=(by simpa using hq);clear hq;go_wp2_with fail;go_ret;exact⟨by rw [q];rfl,C⟩);· obtain rfl:j=l.length:=(by omega);have q:=ab (show r=0 by rw [<- N];exact a0K G);go_wp2_with fail;go_ret;exact⟨by rw [q];rfl,C⟩
theorem pJ(a b:List UInt8)(w:World)(Q:a.length<=maxLen)(U:b.length<=maxLen):Calls Tryz.prog 45 #[.string (aD a),.string (aD b)] w (eP w (.int .i64 (tM a b))):=by
 have I:(aD a).size=a.length:=by unfold aD;simp [ByteArray.size]
 have sb:(aD b).size=b.length:=by unfold aD;simp [ByteArray.size]
 unfold maxLen at Q U;have q:=ab (fun W=>UL ((aD a).size:Int) ((aD b).size:Int) W);have J:=ab (fun W=>UM a b W);have N:=ab (fun W(e:Ext (w.alloc (.cells #[.int .i64 (oH ((aD a).size:Int) ((aD b).size:Int)),.int .i64 (wW a b)] 3)) W)=>a0L (v:=.slice (some ⟨w.heap.size,0,none⟩) 2 2) (l:=[oH ((aD a).size:Int) ((aD b).size:Int),wW a b]) W ((Rd.lit w #[.int .i64 (oH ((aD a).size:Int) ((aD b).size:Int)),.int .i64 (wW a b)] 3 2 rfl (by unfold maxLen;omega):fh _ .i64 _ [oH ((aD a).size:Int) ((aD b).size:Int),wW a b]).ext e));have C:=ab (show orL [oH ((aD a).size:Int) ((aD b).size:Int),wW a b]=tM a b by rw [YM,YL,I,sb]);have F:Ext w (w.alloc (.cells #[.int .i64 (oH ((aD a).size:Int) ((aD b).size:Int)),.int .i64 (wW a b)] 3)):=(aa _ _).alloc (bh _) _;obtain⟨x,G⟩:∃x,oH ((aD a).size:Int) ((aD b).size:Int)=x:=⟨_,rfl⟩;obtain⟨y,H⟩:∃y,wW a b=y:=⟨_,rfl⟩;obtain⟨K,O⟩:∃K,tM a b=K:=⟨_,rfl⟩;rw [O]at C⊢;rw [G,H]at N C F;rw [G]at q;rw [H]at J;rw [I,sb]at q;have X:=ab F;clear G H O F;go_in;go_wp2_with fail;refine(q _).mono ?_;rintro e Y⟨rfl,rfl⟩;go_wp2_with fail;refine(J _).mono ?_;rintro e Y⟨rfl,rfl⟩;go_wp2_with fail;refine(N _ (aa _ _)).mono ?_;rintro e w2⟨rfl,b2⟩;rw [C];go_wp2_with fail;go_ret;exact⟨rfl,X.tr b2⟩
def ir(d:DF):Value:=.agg (aY d).toArray
def jC(w:World)(g:Nat)(d:DF):Prop:=w.heap[g]?=some (.cells (aY d).toArray 65 (0,0))
theorem eX:(Tryz.prog.info? 65).map (·.size)=some 5:=by kernel_rfl
section
variable {w w':World}{g:Nat}{d:DF}
theorem jC.lt(h:jC w g d):g<w.heap.size:=a9 h
theorem jC.ext(h:jC w g d)(e:Ext w w'):jC w' g d:=(e.block g h.lt).trans h
theorem jC.c0(h:jC w g d):w.cell? ⟨g,0,none⟩=some (.int .i64 d.kind):=by rw [ae w g 0 _ _ _ h];rfl
theorem jC.c1(h:jC w g d):w.cell? ⟨g,1,none⟩=some (.int .i64 d.param):=by rw [ae w g 1 _ _ _ h];rfl
theorem jC.c2(h:jC w g d):w.cell? ⟨g,2,none⟩=some (.int .i64 d.signer):=by rw [ae w g 2 _ _ _ h];rfl
theorem jC.c3(h:jC w g d):w.cell? ⟨g,3,none⟩=some (.string (aD d.fi)):=by rw [ae w g 3 _ _ _ h];rfl
theorem jC.c4(h:jC w g d):w.cell? ⟨g,4,none⟩=some (.string (aD d.la)):=by rw [ae w g 4 _ _ _ h];rfl
theorem jC.frozen(h:jC w g d)(i:Nat):w.frozen? ⟨g,i,none⟩=false:=by unfold jC at h;simp [World.frozen?,h]
theorem nE(w:World)(d:DF):∃wz,wz=w.alloc (.cells #[.int .i64 d.kind,.int .i64 d.param,.int .i64 d.signer,.string (aD d.fi),.string (aD d.la)] 65)/\Ext w wz/\jC wz w.heap.size d:=⟨_,rfl,(aa _ _).alloc (bh _) _,aA w _⟩
end
abbrev fd(w:World)(v:Value)(l:List DF):Prop:=RdK w 5 v (aX l)
theorem fd.at_ {w:World}{v:Value}{l:List DF}(h:fd w v l):∃A n c,v=.slice A n c/\n=l.length/\n<=c/\c<=maxLen/\(0<n->∃b o,A=some ⟨b,o,none⟩/\b<w.heap.size/\∀(i:Nat)(d:DF),l[i]?=some d ->w.cell? ⟨b,o+i*5,none⟩=some (.int .i64 d.kind)/\w.cell? ⟨b,o+i*5+1,none⟩=some (.int .i64 d.param)/\w.cell? ⟨b,o+i*5+2,none⟩=some (.int .i64 d.signer)/\w.cell? ⟨b,o+i*5+3,none⟩=some (.string (aD d.fi))/\w.cell? ⟨b,o+i*5+4,none⟩=some (.string (aD d.la))):=by obtain⟨A,n,c,rfl,F,G,H,I⟩:=RdK.flat (f:=aY) (k:=5) (by omega) wH h;refine⟨A,n,c,rfl,F,G,H,fun J=>?_⟩;obtain⟨b,o,rfl,K,q⟩:=I J;refine⟨b,o,rfl,K,fun i p N=>?_⟩;obtain⟨C,rfl⟩:=aq.1 N;exact⟨q i C 0 _ rfl,q i C 1 _ rfl,q i C 2 _ rfl,q i C 3 _ rfl,q i C 4 _ rfl⟩
set_option maxHeartbeats 4000000 in theorem M3(d:DF)(w:World)(hf:d.fi.length<=maxLen)(hl:d.la.length<=maxLen):Calls Tryz.prog 58 #[ir d] w (eP w (.int .i64 (ff d))):=by
 obtain⟨wz,a2,ez,O⟩:=nE w d;have HS:=ab (fun W=>eT d.signer W);have a0:=ab (fun W=>EH d.fi W hf);have a1:=ab (fun W=>EH d.la W hl);have HC:=ab (fun W=>pJ d.la d.fi W hl hf);obtain⟨K,hK⟩:∃K,ff d=K:=⟨_,rfl⟩;rw [hK];have q:=ab hK;clear hK hf hl;have X:=ab ez;have c0:=O.c0;have c1:=O.c1;have c2:=O.c2;have c3:=O.c3;have c4:=O.c4;have cl:=O.lt;have a3:=ab O;clear O ez;unfold ir aY;go_in;go_upto_region 1 with fail;rw [<- a2];clear a2;by_cases k0:d.kind<1;case pos=>have l:=ab (show K=61 by rw [<- q];exact tN (.inl k0));have k1:(d.kind==1)=false:=(by simp;omega);have k2:(d.kind==2)=false:=(by simp;omega);go_wp2_with fail;go_ret;exact⟨by first | (rw [l];rfl) | rw [l],X⟩
 by_cases k5:5<d.kind;case pos=>have l:=ab (show K=61 by rw [<- q];exact tN (.inr k5));have k1:(d.kind==1)=false:=(by simp;omega);have k2:(d.kind==2)=false:=(by simp;omega);go_wp2_with fail;go_ret;exact⟨by first | (rw [l];rfl) | rw [l],X⟩
 have C:=ab (show¬(d.kind<1\/5<d.kind)by omega);by_cases g1:d.kind=1;case pos=>have k1:(d.kind==1)=true:=(by simpa using g1);by_cases p1:d.param<1;(case pos=>have l:=ab (show K=3 by rw [<- q];refine fX C ?_;unfold gP dfG;simp [g1,p1]);go_wp2_with fail;go_ret;exact⟨by first | (rw [l];rfl) | rw [l],X⟩);by_cases p2:16<d.param;(case pos=>have l:=ab (show K=3 by rw [<- q];refine fX C ?_;unfold gP dfG;simp [g1,p2]);go_wp2_with fail;go_ret;exact⟨by first | (rw [l];rfl) | rw [l],X⟩);have Y:=ab (show((dfG d&&(decide (d.param<1)||decide (16<d.param)))||(!dfG d&&decide (d.param≠0)))=false by unfold dfG;simp [g1,p1,p2]);go_wp2_with fail;refine(HS _).mono ?_;rintro J N⟨rfl,rfl⟩;cases F:decide (eF d.signer)with | false=>have l:=ab (show K=3 by rw [<- q];refine fX C ?_;unfold gP;rw [F];simp);clear F;go_wp2_with fail;go_ret;exact⟨by first | (rw [l];rfl) | rw [l],X⟩ | true=>have G:=ab (show gP d=false by have:=Y.out;unfold gP;rw [F,this];rfl);clear F;go_wp2_with fail;refine(a0 _).mono ?_;rintro J N⟨rfl,rfl⟩;cases H:decide (gM d.fi)with | false=>have l:=ab (show K=1 by rw [<- q];refine fG C G ?_;unfold iN;rw [H];simp);clear H;go_wp2_with fail;go_ret;exact⟨by first | (rw [l];rfl) | rw [l],X⟩ | true=>have H1:=ab H;clear H;go_wp2_with fail;refine(a1 _).mono ?_;rintro J N⟨rfl,rfl⟩;cases I:decide (gM d.la)with | false=>have l:=ab (show K=1 by rw [<- q];refine fG C G ?_;unfold iN;rw [I];simp);clear I;go_wp2_with fail;go_ret;exact⟨by first | (rw [l];rfl) | rw [l],X⟩ | true=>have H2:=ab I;clear I;go_wp2_with fail;refine(HC _).mono ?_;rintro J N⟨rfl,b1⟩;have Q:=ab (X.tr b1);clear b1 c0 c1 c2 c3 c4 cl;have U:=ab (zP d.la d.fi);by_cases h3:tM d.la d.fi<0;(case pos=>have l:=ab (show K=1 by rw [<- q];refine fG C G ?_;unfold iN;rw [<- U,ay h3];simp);go_wp2_with fail;go_ret;exact⟨by first | (rw [l];rfl) | rw [l],Q⟩);have l:=ab (show K=0 by rw [<- q];refine kG C G ?_;unfold iN;rw [<- U,H1,H2,aw h3];rfl);go_wp2_with fail;go_ret;exact⟨by first | (rw [l];rfl) | rw [l],Q⟩
 have k1:(d.kind==1)=false:=by simpa using g1
 by_cases g2:d.kind=2;case pos=>have k2:(d.kind==2)=true:=(by simpa using g2);by_cases p1:d.param<1;(case pos=>have l:=ab (show K=3 by rw [<- q];refine fX C ?_;unfold gP dfG;simp [g2,p1]);go_wp2_with fail;go_ret;exact⟨by first | (rw [l];rfl) | rw [l],X⟩);by_cases p2:16<d.param;(case pos=>have l:=ab (show K=3 by rw [<- q];refine fX C ?_;unfold gP dfG;simp [g2,p2]);go_wp2_with fail;go_ret;exact⟨by first | (rw [l];rfl) | rw [l],X⟩);have Y:=ab (show((dfG d&&(decide (d.param<1)||decide (16<d.param)))||(!dfG d&&decide (d.param≠0)))=false by unfold dfG;simp [g2,p1,p2]);go_wp2_with fail;refine(HS _).mono ?_;rintro J N⟨rfl,rfl⟩;cases F:decide (eF d.signer)with | false=>have l:=ab (show K=3 by rw [<- q];refine fX C ?_;unfold gP;rw [F];simp);clear F;go_wp2_with fail;go_ret;exact⟨by first | (rw [l];rfl) | rw [l],X⟩ | true=>have G:=ab (show gP d=false by have:=Y.out;unfold gP;rw [F,this];rfl);clear F;go_wp2_with fail;refine(a0 _).mono ?_;rintro J N⟨rfl,rfl⟩;cases H:decide (gM d.fi)with | false=>have l:=ab (show K=1 by rw [<- q];refine fG C G ?_;unfold iN;rw [H];simp);clear H;go_wp2_with fail;go_ret;exact⟨by first | (rw [l];rfl) | rw [l],X⟩ | true=>have H1:=ab H;clear H;go_wp2_with fail;refine(a1 _).mono ?_;rintro J N⟨rfl,rfl⟩;cases I:decide (gM d.la)with | false=>have l:=ab (show K=1 by rw [<- q];refine fG C G ?_;unfold iN;rw [I];simp);clear I;go_wp2_with fail;go_ret;exact⟨by first | (rw [l];rfl) | rw [l],X⟩ | true=>have H2:=ab I;clear I;go_wp2_with fail;refine(HC _).mono ?_;rintro J N⟨rfl,b1⟩;have Q:=ab (X.tr b1);clear b1 c0 c1 c2 c3 c4 cl;have U:=ab (zP d.la d.fi);by_cases h3:tM d.la d.fi<0;(case pos=>have l:=ab (show K=1 by rw [<- q];refine fG C G ?_;unfold iN;rw [<- U,ay h3];simp);go_wp2_with fail;go_ret;exact⟨by first | (rw [l];rfl) | rw [l],Q⟩);have l:=ab (show K=0 by rw [<- q];refine kG C G ?_;unfold iN;rw [<- U,H1,H2,aw h3];rfl);go_wp2_with fail;go_ret;exact⟨by first | (rw [l];rfl) | rw [l],Q⟩
 have k2:(d.kind==2)=false:=by simpa using g2
 by_cases p0:d.param=0;case neg=>have l:=ab (show K=3 by rw [<- q];refine fX C ?_;unfold gP dfG;simp [g1,g2,p0]);have hb:(d.param !=0)=true:=(by simpa using p0);go_wp2_with fail;go_ret;exact⟨by first | (rw [l];rfl) | rw [l],X⟩
 have Y:=ab (show((dfG d&&(decide (d.param<1)||decide (16<d.param)))||(!dfG d&&decide (d.param≠0)))=false by unfold dfG;simp [g1,g2,p0]);have hb:(d.param !=0)=false:=by simpa using p0
 go_wp2_with fail;refine(HS _).mono ?_;rintro J N⟨rfl,rfl⟩;cases F:decide (eF d.signer)with | false=>have l:=ab (show K=3 by rw [<- q];refine fX C ?_;unfold gP;rw [F];simp);clear F;go_wp2_with fail;go_ret;exact⟨by first | (rw [l];rfl) | rw [l],X⟩ | true=>have G:=ab (show gP d=false by have:=Y.out;unfold gP;rw [F,this];rfl);clear F;go_wp2_with fail;refine(a0 _).mono ?_;rintro J N⟨rfl,rfl⟩;cases H:decide (gM d.fi)with | false=>have l:=ab (show K=1 by rw [<- q];refine fG C G ?_;unfold iN;rw [H];simp);clear H;go_wp2_with fail;go_ret;exact⟨by first | (rw [l];rfl) | rw [l],X⟩ | true=>have H1:=ab H;clear H;go_wp2_with fail;refine(a1 _).mono ?_;rintro J N⟨rfl,rfl⟩;cases I:decide (gM d.la)with | false=>have l:=ab (show K=1 by rw [<- q];refine fG C G ?_;unfold iN;rw [I];simp);clear I;go_wp2_with fail;go_ret;exact⟨by first | (rw [l];rfl) | rw [l],X⟩ | true=>have H2:=ab I;clear I;go_wp2_with fail;refine(HC _).mono ?_;rintro J N⟨rfl,b1⟩;have Q:=ab (X.tr b1);clear b1 c0 c1 c2 c3 c4 cl;have U:=ab (zP d.la d.fi);by_cases h3:tM d.la d.fi<0;(case pos=>have l:=ab (show K=1 by rw [<- q];refine fG C G ?_;unfold iN;rw [<- U,ay h3];simp);go_wp2_with fail;go_ret;exact⟨by first | (rw [l];rfl) | rw [l],Q⟩);have l:=ab (show K=0 by rw [<- q];refine kG C G ?_;unfold iN;rw [<- U,H1,H2,aw h3];rfl);go_wp2_with fail;go_ret;exact⟨by first | (rw [l];rfl) | rw [l],Q⟩
set_option maxHeartbeats 4000000 in theorem BT(d:DF)(w:World)(hf:d.fi.length<=maxLen)(hl:d.la.length<=maxLen):Calls Tryz.prog 63 #[ir d] w (eP w (.int .i64 (ff d))):=by
 obtain⟨wz,a2,ez,Q⟩:=nE w d;have HS:=ab (fun W=>bX d.signer W);have a0:=ab (fun W=>rT d.fi W hf);have a1:=ab (fun W=>rT d.la W hl);have HC:=ab (fun W=>rU d.la d.fi W hl hf);obtain⟨K,hK⟩:∃K,ff d=K:=⟨_,rfl⟩;rw [hK];have q:=ab hK;clear hK hf hl;have X:=ab ez;have c0:=Q.c0;have c1:=Q.c1;have c2:=Q.c2;have c3:=Q.c3;have c4:=Q.c4;have cl:=Q.lt;have a3:=ab Q;clear Q ez;unfold ir aY;go_in;go_upto_region 1 with fail;rw [<- a2];clear a2;by_cases k0:d.kind<1;case pos=>have l:=ab (show K=61 by rw [<- q];exact tN (.inl k0));have k1:(d.kind==1)=false:=(by simp;omega);have k2:(d.kind==2)=false:=(by simp;omega);go_wp2_with fail;go_ret;exact⟨by first | (rw [l];rfl) | rw [l],X⟩
 by_cases k5:5<d.kind;case pos=>have l:=ab (show K=61 by rw [<- q];exact tN (.inr k5));have k1:(d.kind==1)=false:=(by simp;omega);have k2:(d.kind==2)=false:=(by simp;omega);go_wp2_with fail;go_ret;exact⟨by first | (rw [l];rfl) | rw [l],X⟩
 have C:=ab (show¬(d.kind<1\/5<d.kind)by omega);by_cases g1:d.kind=1;case pos=>have k1:(d.kind==1)=true:=(by simpa using g1);by_cases p1:d.param<1;(case pos=>have l:=ab (show K=3 by rw [<- q];refine fX C ?_;unfold gP dfG;simp [g1,p1]);go_wp2_with fail;go_ret;exact⟨by first | (rw [l];rfl) | rw [l],X⟩);by_cases p2:16<d.param;(case pos=>have l:=ab (show K=3 by rw [<- q];refine fX C ?_;unfold gP dfG;simp [g1,p2]);go_wp2_with fail;go_ret;exact⟨by first | (rw [l];rfl) | rw [l],X⟩);have U:=ab (show((dfG d&&(decide (d.param<1)||decide (16<d.param)))||(!dfG d&&decide (d.param≠0)))=false by unfold dfG;simp [g1,p1,p2]);go_wp2_with fail;refine(HS _).mono ?_;rintro N O⟨rfl,rfl⟩;cases F:decide (eF d.signer)with | false=>have l:=ab (show K=3 by rw [<- q];refine fX C ?_;unfold gP;rw [F];simp);clear F;go_wp2_with fail;go_ret;exact⟨by first | (rw [l];rfl) | rw [l],X⟩ | true=>have G:=ab (show gP d=false by have:=U.out;unfold gP;rw [F,this];rfl);clear F;go_wp2_with fail;refine(a0 _).mono ?_;rintro N O⟨rfl,rfl⟩;cases H:decide (gM d.fi)with | false=>have l:=ab (show K=1 by rw [<- q];refine fG C G ?_;unfold iN;rw [H];simp);clear H;go_wp2_with fail;go_ret;exact⟨by first | (rw [l];rfl) | rw [l],X⟩ | true=>have Y:=ab H;clear H;go_wp2_with fail;refine(a1 _).mono ?_;rintro N O⟨rfl,rfl⟩;cases I:decide (gM d.la)with | false=>have l:=ab (show K=1 by rw [<- q];refine fG C G ?_;unfold iN;rw [I];simp);clear I;go_wp2_with fail;go_ret;exact⟨by first | (rw [l];rfl) | rw [l],X⟩ | true=>have H2:=ab I;clear I;go_wp2_with fail;refine(HC _).mono ?_;rintro N O⟨rfl,rfl⟩;cases J:nB d.la d.fi with | true=>have l:=ab (show K=1 by rw [<- q];refine fG C G ?_;unfold iN;rw [J];simp);clear J;go_wp2_with fail;go_ret;exact⟨by first | (rw [l];rfl) | rw [l],X⟩ | false=>have l:=ab (show K=0 by rw [<- q];refine kG C G ?_;unfold iN;rw [Y,H2,J];rfl);clear J;go_wp2_with fail;go_ret;exact⟨by first | (rw [l];rfl) | rw [l],X⟩
 have k1:(d.kind==1)=false:=by simpa using g1
 by_cases g2:d.kind=2;case pos=>have k2:(d.kind==2)=true:=(by simpa using g2);by_cases p1:d.param<1;(case pos=>have l:=ab (show K=3 by rw [<- q];refine fX C ?_;unfold gP dfG;simp [g2,p1]);go_wp2_with fail;go_ret;exact⟨by first | (rw [l];rfl) | rw [l],X⟩);by_cases p2:16<d.param;(case pos=>have l:=ab (show K=3 by rw [<- q];refine fX C ?_;unfold gP dfG;simp [g2,p2]);go_wp2_with fail;go_ret;exact⟨by first | (rw [l];rfl) | rw [l],X⟩);have U:=ab (show((dfG d&&(decide (d.param<1)||decide (16<d.param)))||(!dfG d&&decide (d.param≠0)))=false by unfold dfG;simp [g2,p1,p2]);go_wp2_with fail;refine(HS _).mono ?_;rintro N O⟨rfl,rfl⟩;cases F:decide (eF d.signer)with | false=>have l:=ab (show K=3 by rw [<- q];refine fX C ?_;unfold gP;rw [F];simp);clear F;go_wp2_with fail;go_ret;exact⟨by first | (rw [l];rfl) | rw [l],X⟩ | true=>have G:=ab (show gP d=false by have:=U.out;unfold gP;rw [F,this];rfl);clear F;go_wp2_with fail;refine(a0 _).mono ?_;rintro N O⟨rfl,rfl⟩;cases H:decide (gM d.fi)with | false=>have l:=ab (show K=1 by rw [<- q];refine fG C G ?_;unfold iN;rw [H];simp);clear H;go_wp2_with fail;go_ret;exact⟨by first | (rw [l];rfl) | rw [l],X⟩ | true=>have Y:=ab H;clear H;go_wp2_with fail;refine(a1 _).mono ?_;rintro N O⟨rfl,rfl⟩;cases I:decide (gM d.la)with | false=>have l:=ab (show K=1 by rw [<- q];refine fG C G ?_;unfold iN;rw [I];simp);clear I;go_wp2_with fail;go_ret;exact⟨by first | (rw [l];rfl) | rw [l],X⟩ | true=>have H2:=ab I;clear I;go_wp2_with fail;refine(HC _).mono ?_;rintro N O⟨rfl,rfl⟩;cases J:nB d.la d.fi with | true=>have l:=ab (show K=1 by rw [<- q];refine fG C G ?_;unfold iN;rw [J];simp);clear J;go_wp2_with fail;go_ret;exact⟨by first | (rw [l];rfl) | rw [l],X⟩ | false=>have l:=ab (show K=0 by rw [<- q];refine kG C G ?_;unfold iN;rw [Y,H2,J];rfl);clear J;go_wp2_with fail;go_ret;exact⟨by first | (rw [l];rfl) | rw [l],X⟩
 have k2:(d.kind==2)=false:=by simpa using g2
 by_cases p0:d.param=0;case neg=>have l:=ab (show K=3 by rw [<- q];refine fX C ?_;unfold gP dfG;simp [g1,g2,p0]);have hb:(d.param !=0)=true:=(by simpa using p0);go_wp2_with fail;go_ret;exact⟨by first | (rw [l];rfl) | rw [l],X⟩
 have U:=ab (show((dfG d&&(decide (d.param<1)||decide (16<d.param)))||(!dfG d&&decide (d.param≠0)))=false by unfold dfG;simp [g1,g2,p0]);have hb:(d.param !=0)=false:=by simpa using p0
 go_wp2_with fail;refine(HS _).mono ?_;rintro N O⟨rfl,rfl⟩;cases F:decide (eF d.signer)with | false=>have l:=ab (show K=3 by rw [<- q];refine fX C ?_;unfold gP;rw [F];simp);clear F;go_wp2_with fail;go_ret;exact⟨by first | (rw [l];rfl) | rw [l],X⟩ | true=>have G:=ab (show gP d=false by have:=U.out;unfold gP;rw [F,this];rfl);clear F;go_wp2_with fail;refine(a0 _).mono ?_;rintro N O⟨rfl,rfl⟩;cases H:decide (gM d.fi)with | false=>have l:=ab (show K=1 by rw [<- q];refine fG C G ?_;unfold iN;rw [H];simp);clear H;go_wp2_with fail;go_ret;exact⟨by first | (rw [l];rfl) | rw [l],X⟩ | true=>have Y:=ab H;clear H;go_wp2_with fail;refine(a1 _).mono ?_;rintro N O⟨rfl,rfl⟩;cases I:decide (gM d.la)with | false=>have l:=ab (show K=1 by rw [<- q];refine fG C G ?_;unfold iN;rw [I];simp);clear I;go_wp2_with fail;go_ret;exact⟨by first | (rw [l];rfl) | rw [l],X⟩ | true=>have H2:=ab I;clear I;go_wp2_with fail;refine(HC _).mono ?_;rintro N O⟨rfl,rfl⟩;cases J:nB d.la d.fi with | true=>have l:=ab (show K=1 by rw [<- q];refine fG C G ?_;unfold iN;rw [J];simp);clear J;go_wp2_with fail;go_ret;exact⟨by first | (rw [l];rfl) | rw [l],X⟩ | false=>have l:=ab (show K=0 by rw [<- q];refine kG C G ?_;unfold iN;rw [Y,H2,J];rfl);clear J;go_wp2_with fail;go_ret;exact⟨by first | (rw [l];rfl) | rw [l],X⟩
theorem aK.setRowK {α:Type}{K:LK α}{w:World}{B n c i:Nat}{A:Option Addr}{ps:List (α×Value)}{a:α}{u:Value}(ho:aK w B K.T K.k (.slice A n c) (K.cells ps))(hi:i<ps.length): ∃g,A=some ⟨g,0,none⟩/\B<=g/\w.there g (i*K.k) K.k/\n=ps.length/\n<=c/\c<=maxLen/\aK (w.setCells g (i*K.k) (K.row a u)) B K.T K.k (.slice A n c) (K.cells (ps.set i (a,u))):=by
 obtain⟨A',n',c',e,H,O⟩:=ho;injection e with Q q U;subst Q q U;rw [K.cells_len]at H;obtain rfl:n=ps.length:=je K.pos H;rcases O with⟨h0,_⟩ | ⟨g,l,rfl,I,hg,C,J,W,X⟩;· omega
 have a1:i*K.k+K.k<=c*K.k:=by rw [<- Nat.succ_mul];exact Nat.mul_le_mul_right _ (by omega)
 refine⟨g,rfl,I,fun j hj=>⟨?_,by simp [World.frozen?,hg]⟩,rfl,C,J,?_⟩;· rw [ae w g _ l _ _ hg];simp;omega
 · have e:ps=ps.take i++[ps[i]]++ps.drop (i+1):=(by rw [fc,List.singleton_append,<- List.drop_eq_getElem_cons hi,List.take_append_drop]);have q:ps.set i (a,u)=ps.take i++[(a,u)]++ps.drop (i+1):=(by rw [List.set_eq_take_append_cons_drop,ax hi,fc];rfl);have N:l.toList=K.cells ps++l.toList.drop (ps.length*K.k):=(by rw [<- X,List.take_append_drop]);generalize Y:l.toList.drop (ps.length*K.k)=R at N;have hl:(K.cells (ps.take i)).length=i*K.k:=(by rw [K.cells_len,gc,Nat.min_eq_left (Nat.le_of_lt hi)]);have h':w.heap[g]?=some (.cells (K.cells (ps.take i)++K.row ps[i].1 ps[i].2++(K.cells (ps.drop (i+1))++R)).toArray K.T (0,0)):=(by rw [hg];congr 2;rw [<- Array.toArray_toList (xs:=l),N];congr 1;(conv=>lhs;rw [e,K.cells_app,K.cells_app,K.cells_sing]);simp only [fc]);have F:=kF (K.row a u) (K.cells (ps.take i)) (K.cells (ps.drop (i+1))++R) w g (K.row ps[i].1 ps[i].2) K.T (0,0) h' (by rw [K.len,K.len]);rw [hl,<- fE]at F;have h3:(K.cells (ps.take i)++K.row a u++(K.cells (ps.drop (i+1))++R))=K.cells (ps.set i (a,u))++R:=(by rw [q,K.cells_app,K.cells_app,K.cells_sing];simp only [fc]);rw [h3]at F;have G:(K.cells (ps.set i (a,u))).length=ps.length*K.k:=(by rw [K.cells_len,List.length_set]);have a0:R.length=c*K.k - ps.length*K.k:=(by rw [<- Y,List.length_drop,Array.length_toList,W]);have a2:ps.length*K.k<=c*K.k:=Nat.mul_le_mul_right _ C;refine⟨_,ps.length,c,rfl,G.symm,.inr ⟨g,_,rfl,I,F,C,J,?_,?_⟩⟩;(· show(K.cells (ps.set i (a,u))++R).length=c*K.k;rw [cz,G,a0];omega);· show(K.cells (ps.set i (a,u))++R).take _=_;rw [<- G];exact List.take_left
theorem LK.cells_one {α:Type}{K:LK α}{ps:List (α×Value)}(h:∀p∈ps,p.2.oneCell'=true):∀u∈K.cells ps,u.oneCell'=true:=by intro u l;obtain⟨p,q,C⟩:=List.mem_flatMap.1 l;exact K.one p.1 p.2 (h p q) u C
theorem RdK.oneU {w:World}{k:Nat}{v:Value}{xs:List Value}(h:RdK w k v xs):v.oneCell'=true:=by obtain⟨A,n,c,rfl,_⟩:=h;rfl
theorem nF {α:Type}(l:List α)(x:α):(l++[x]).set l.length x=l++[x]:=by rw [List.set_append_right _ _ (bh _),Nat.sub_self];rfl
section
variable {P:Program}{ops:Array Oper}{Q:Exit->Act->World->Prop}{w0:World}{R:Act->World->Prop}
open Gd (eC)
theorem Gd.wpX_midK {o:Oper}{rest:List Oper}{a:Act}{l:List (Nat×aM)}{d:Nat}(hg:eC ops o a l)(g i:Nat)(cs:List Value){ty:TypeId}{x:Operand}{ds:TypeDesc}(q:o.dst=some d)(C:Nat.blt d a.tmps.size=true)(ho:o.op=.load ty x)(F:a.eval x=.pointer (some ⟨g,i,none⟩))(G:gO o l=true)(H:∀m:Lt w0,m.1.rangeAt g i cs)(I:P.underlying ty=some ds)(J:ds.isRow=true)(hi:(P.info? ty).map (·.size)=some cs.length)(N:Gt.wpX Gd.exR P ops Q w0 R [] rest (a.put (some d) (.agg cs.toArray)) l):Gt.wpX Gd.exR P ops Q w0 R [] (o::rest) a l:=Gd.iB hg (.agg cs.toArray) q C (by unfold bC;rw [ho]) G (fun m K O=>by unfold Oper.wp execOp;simp only [ho,F,Sem.run_bind,run_loadAt_mid m.1 g i ty cs ds (H m) I J hi,Result.andThen_ok,Sem.run_pure];exact O _ _ (by rw [q];rfl) ⟨aa _ _,by rw [q,bF (cQ C)]⟩) N
end
theorem UN {w:World}{A:Option Addr}{n c:Nat}{l:List UInt8}(h:Rd w (.slice A n c) (ce l)):(convert 48 9 (.slice A n c)).run Tryz.prog w=.ok (.string (aD l)) w:=by
 obtain⟨K,N,O,e,q,Q,U,C⟩:=h;injection e with F G H;subst F G H;rw [bM]at q;by_cases h0:n=0;· subst h0;obtain rfl:l=[]:=ig q.symm;rw [run_convert_bytes_string w 48 9 5 _ 0 c Tryz.underlying48 Tryz.underlying5 Tryz.underlying9];cases A<;>simp [Conv.bytesToString,loadCells];all_goals rfl
 · obtain⟨b,o,rfl,I⟩:=C (by omega);subst q;refine run_convert_bytes_back w 48 9 5 ⟨b,o,none⟩ c l Tryz.underlying48 Tryz.underlying5 Tryz.underlying9 fun j J=>?_;rw [Addr.add_lit];exact I j _ (by simp [ce,J,bv])
end Go.Proofs.YtmmoenkmicimcaaGreatDoor
