import Derived.Test.YtmmoenkmicimcaaGreatDoorObo
import Derived.Test.YtmmoenkmicimcaaGreatDoorObp
namespace Go.Proofs.YtmmoenkmicimcaaGreatDoor
open Go.RowKit
open Gd (eC mC)
set_option linter.unusedVariables false
set_option maxRecDepth 100000
theorem uE:¬iR 33:=by unfold iR;decide
theorem jV:(Tryz.prog.info? 33).map (·.size)=some 7:=by kernel_rfl
def cO(v:Value)(s0 s1 l q C:dd)(day:Int):Array Value:=#[v,.slice s0.1 s0.2.1 s0.2.2,.slice s1.1 s1.2.1 s1.2.2,.slice l.1 l.2.1 l.2.2,.slice q.1 q.2.1 q.2.2,.slice C.1 C.2.1 C.2.2,.int .i64 day]
theorem qL {v:Value}(s0 s1 l q C:dd)(day:Int)(h:v.oneCell'=true):(cO v s0 s1 l q C day).all (·.oneCell')=true:=by simp [cO,Value.oneCell'];exact h
structure WB (w:World) (P D b:Nat):Prop where
 D1:w.heap.size<D
 b1:w.heap.size<b
 D2:D<P
 b2:b<P
structure WI (w:World) (P D b:Nat) (v:Value) (s0 s1 s2 s3 s4:dd) (day:Int) (xs:List AB) (wr:World):Prop where
 ext:Ext w wr
 dice:∃ M,cH wr D b M
 rz:wr.heap[w.heap.size]?=some (.cells jj 33 (0,0))
 po:wr.heap[P]?=some (.cells (cO v s0 s1 s2 s3 s4 day) 33 (0,0))
 own:aK wr (P+1) 50 33 v (kJ xs)
section
variable {w wr wx:World}{P D b:Nat}{v v':Value}{s0 s1 s2 s3 s4 t0 t1 t2 t3 t4:dd}{day:Int}{xs ys:List AB}
theorem WI.tr(h:WI w P D b v s0 s1 s2 s3 s4 day xs wr)(e:Ext wr wx):WI w P D b v s0 s1 s2 s3 s4 day xs wx:=by obtain⟨C,⟨M,F⟩,l,q,G⟩:=h;exact⟨C.tr e,⟨M,F.ext e⟩,(e.block _ (a9 l)).trans l,(e.block _ (a9 q)).trans q,G.ext e⟩
theorem WI.dc(h:WI w P D b v s0 s1 s2 s3 s4 day xs wr)(q:WB w P D b)(r:(dcR D b).rel wr wx):WI w P D b v s0 s1 s2 s3 s4 day xs wx:=by have l:=q.D1;have C:=q.D2;exact⟨Gb.below h.ext r.1 (Nat.le_of_lt q.D1),r.2 h.dice,(r.1.block _ (a9 h.rz) (fun e=>by injection e with e;omega)).trans h.rz,(r.1.block _ (a9 h.po) (fun e=>by injection e with e;omega)).trans h.po,h.own.grown r.1 (.inr (fun e=>by have:=aZ h.own _ e;omega))⟩
theorem WI.kdc(h:WI w P D b v s0 s1 s2 s3 s4 day xs wr)(r:(dcR D b).rel wr wx):Kp wr wx:=by obtain⟨M,A,n,c,k,q,l,_⟩:=h.dice;exact Kp.gb l OV r.1
theorem WI.next(h:WI w P D b v s0 s1 s2 s3 s4 day xs wr)(q:WB w P D b)(n:Int)(C:1<=n)(F:n<=4611686018427387904):Calls Tryz.prog 28 #[.pointer (some ⟨D,0,none⟩),.int .i64 n] wr fun e w'=>∃z:Int,0<=z/\z<n/\e=.returned (.int .i64 z)/\WI w P D b v s0 s1 s2 s3 s4 day xs w'/\Kp wr w' :=(lY n h.dice C F).mono fun e w'⟨u,G,l,z,H,I,J⟩=>⟨z,I,J,by rw [G,H],h.dc q l,h.kdc l⟩
theorem WI.app(h:WI w P D b v s0 s1 s2 s3 s4 day xs wr)(q:WB w P D b)(o:aK wx (P+1) 50 33 v' (kJ ys))(g:wr.grownBy wx (aQ v)):wx.heap[P]?=some (.cells (cO v s0 s1 s2 s3 s4 day) 33 (0,0))/\WI w P D b v' s0 s1 s2 s3 s4 day ys (wx.setCell ⟨P,0,none⟩ v')/\Kp wr (wx.setCell ⟨P,0,none⟩ v'):=by
 have I:=q.D1;have J:=q.D2;have K:=q.b1;have N:=q.b2;have l:∀k,k<P+1->some k≠aQ v:=fun k G e=>by have:=aZ h.own k e.symm;omega
 obtain⟨M,C⟩:=h.dice;have F:wx.heap[P]?=some (.cells (cO v s0 s1 s2 s3 s4 day) 33 (0,0)):=(g.block P (a9 h.po) (l P (Nat.lt_succ_self _))).trans h.po;have k1:Kp wr wx:=Kp.own h.own JM g;refine⟨F,⟨aI (h.ext.grown g h.ext.size (fun k G=>by have:=aZ h.own k G;omega)) (by omega),⟨M,(C.keep (g.block D C.lt (l D (by omega))) (g.block b C.ltb (l b (by omega)))).keep (aP (by omega)) (aP (by omega))⟩,(aP (by omega)).trans ((g.block _ (a9 h.rz) (l _ (by omega))).trans h.rz),?_,o.grown (Gb.set P 0 wx v') (.inr (fun e=>by have:=aZ o _ e;omega))⟩,k1.tr (Kp.gb F uE (Gb.set P 0 wx v'))⟩;have H:=aG F 0 v';exact H
theorem WI.put(h:WI w P D b v s0 s1 s2 s3 s4 day xs wr)(q:WB w P D b)(i:Nat)(u:Value)(C:(cO v s0 s1 s2 s3 s4 day).setIfInBounds i u=cO v t0 t1 t2 t3 t4 day):WI w P D b v t0 t1 t2 t3 t4 day xs (wr.setCell ⟨P,i,none⟩ u)/\Kp wr (wr.setCell ⟨P,i,none⟩ u):=by have G:=q.D1;have H:=q.D2;have I:=q.b1;have J:=q.b2;obtain⟨M,F⟩:=h.dice;refine⟨⟨aI h.ext (by omega),⟨M,F.keep (aP (by omega)) (aP (by omega))⟩,(aP (by omega)).trans h.rz,?_,h.own.grown (Gb.set P i wr u) (.inr (fun e=>by have:=aZ h.own _ e;omega))⟩,Kp.gb h.po uE (Gb.set P i wr u)⟩;have l:=aG h.po i u;rw [C]at l;exact l
theorem WI.form(h:WI w P D b v s0 s1 s2 s3 s4 day xs wr):∃A c,v=.slice A xs.length c:=by obtain⟨A,n,c,e,l,-⟩:=h.own;rw [nJ]at l;obtain rfl:n=xs.length:=je (by decide) l;exact⟨A,c,e⟩
theorem WI.range {A:Option Addr}{n c i:Nat}{x:AB}(h:WI w P D b (.slice A n c) s0 s1 s2 s3 s4 day xs wr)(hi:xs[i]?=some x):∃g,A=some ⟨g,0,none⟩/\P+1<=g/\g<wr.heap.size/\n=xs.length/\n<=c/\c<=maxLen/\wr.rangeAt g (i*33) (fq x):=aK.rangeFlat uD (by decide) h.own hi
theorem WI.c(h:WI w P D b v s0 s1 s2 s3 s4 day xs wr):wr.rangeAt P 1 [cd s0,cd s1,cd s2,cd s3,cd s4]/\wr.cell? ⟨P,0,none⟩=some v/\wr.cell? ⟨P,1,none⟩=some (cd s0)/\wr.cell? ⟨P,2,none⟩=some (cd s1)/\wr.cell? ⟨P,6,none⟩=some (.int .i64 day)/\P<wr.heap.size/\∀i,wr.frozen? ⟨P,i,none⟩=false:=by have l:=h.po;refine⟨fun j u q=>?_,by rw [ae _ _ 0 _ _ _ l];rfl,by rw [ae _ _ 1 _ _ _ l];rfl,by rw [ae _ _ 2 _ _ _ l];rfl,by rw [ae _ _ 6 _ _ _ l];rfl,a9 l,fun i=>by simp [World.frozen?,l]⟩;rw [ae _ _ _ _ _ _ l,show cO v s0 s1 s2 s3 s4 day=([v]++[cd s0,cd s1,cd s2,cd s3,cd s4]++[Value.int .i64 day]).toArray from rfl,List.getElem?_toArray,fc,bf (by show 1<=1+j;omega),show 1+j - [v].length=j by show 1+j - 1=j;omega,bi (aq.1 q).1];exact q
end
theorem a01(w:World):∃wz,wz=w.alloc (.cells jj 33)/\Ext w wz/\wz.heap[w.heap.size]?=some (.cells jj 33 (0,0)):=⟨_,rfl,(aa _ _).alloc (bh _) _,aA w _⟩
theorem a11(w:World)(day:Int):∃wz,wz=w.alloc (.cells #[.slice none 0 0,.slice none 0 0,.slice none 0 0,.slice none 0 0,.slice none 0 0,.slice none 0 0,.int .i64 day] 33)/\Ext w wz/\wz.heap[w.heap.size]?=some (.cells (cO (.slice none 0 0) zS zS zS zS zS day) 33 (0,0)):=⟨_,rfl,(aa _ _).alloc (bh _) _,aA w _⟩
theorem B9 {w:World}{A:Option Addr}{n c:Nat}{x:NC}{l:List NC}(h:RdN w (.slice A n c) (x::l)):∃b o,A=some ⟨b,o,none⟩/\b<w.heap.size/\w.rangeAt b o (aH x):=by obtain⟨N,O,Q,e,F,_,_,G⟩:=h;injection e with H I J;subst H I J;rw [bJ,dq]at F;obtain⟨b,o,rfl,K⟩:=G (Nat.pos_of_ne_zero fun q=>by subst q;omega);have key:w.rangeAt b o (aH x):=fun j u C=>K j u (by show(aH x++aC l)[j]?=some u;rw [bi (aq.1 C).1];exact C);exact⟨b,o,rfl,be w _ (key 0 _ rfl),key⟩
theorem pW {w:World}{v:Value}{l:List NC}(h:RdN w v l):∃A c,v=.slice A l.length c/\l.length<=c/\c<=maxLen:=by obtain⟨A,n,c,e,q,C,F,-⟩:=RdN.at_ h;subst q;exact⟨A,c,e,C,F⟩
theorem VV(l:List Int):∀d∈DC l,d<=40060:=fun d q=>by obtain⟨j,C,rfl⟩:=List.mem_map.1 q;have F:=F3 l.tail.tail.tail j;have G:=List.mem_range.1 C;have H:=OT l;omega
def a12(B:Nat)(l:List NC):aM:=fun v w=>∃A c,v=.slice A l.length c/\aK w B 39 11 (.slice A l.length c) (aC l)
theorem JR(B:Nat)(l:List NC):cF (a12 B l):=fun v w w' e⟨A,c,q,C⟩=>⟨A,c,q,C.ext e⟩
def a1W(B:Nat)(c d:NC):aM:=fun v w=>∃g,v=.slice (some ⟨g,0,none⟩) 2 2/\B<=g/\w.heap[g]?=some (.cells (aH c++aH d).toArray 39 (0,0))
theorem VW(W:World)(c d:NC):(Instr.buildSlice 26 2 [(0,.agg (aH c).toArray),(1,.agg (aH d).toArray)].toArray).run Tryz.prog W=.ok (.slice (some ⟨W.heap.size,0,none⟩) 2 2) (W.alloc (.cells (aH c++aH d).toArray 39)):=by unfold aH;go_simp
theorem VX(W:World)(c:NC):(Instr.buildSlice 26 1 [(0,.agg (aH c).toArray)].toArray).run Tryz.prog W=.ok (.slice (some ⟨W.heap.size,0,none⟩) 1 1) (W.alloc (.cells (aH c).toArray 39)):=by unfold aH;go_simp
def VY(B:Nat):aM:=fun v w=>∃g,v=.pointer (some ⟨g,0,none⟩)/\B<=g/\mM w g 50 33
theorem wQ(B:Nat)(S:List Nat)(G:Nat->Prop):(RG S G).stable (VY B):=fun v w w' r⟨g,l,q,C⟩=>⟨g,l,q,C.rg r⟩
theorem FA(W:World):(Instr.alloc 50 true (.tuple #[])).run Tryz.prog W=.ok (.pointer (some ⟨W.heap.size,0,none⟩)) (W.alloc (.cells (im).toArray 50)):=by go_simp
def uF(B:Nat)(x:AB):aM:=fun v w=>∃g,v=.pointer (some ⟨g,0,none⟩)/\B<=g/\aV w g x
theorem uF.ext {B:Nat}{x:AB}(v:Value)(w w':World)(e:Ext w w')(h:uF B x v w):uF B x v w':=by obtain⟨g,l,q,C⟩:=h;exact⟨g,l,q,C.ext e⟩
theorem uF.st {B:Nat}{x:AB}{S:List Nat}{G:Nat->Prop}(T:Nat)(l:T≠50)(v:Value)(w w':World)(e:(RG S G).st T w w')(h:uF B x v w):uF B x v w':=by obtain⟨g,C,F,H⟩:=h;exact⟨g,C,F,e.2.other H (fun q=>l (ah.1 q).symm)⟩
theorem FB:39∉ie:=by unfold ie;decide
def GPt(x:AB)(m:MA)(k:Int):aM:=fun v w=>∃A n c,v=.tuple #[gt x,jm m (.slice A n c),.int .i64 k]/\cG w 0 39 11 (.slice A n c) (aC m.roots)
theorem BA(x:AB)(m:MA)(k:Int)(G:Nat->Prop):(RG ie G).stable (GPt x m k):=fun v w w' r⟨A,n,c,l,q⟩=>⟨A,n,c,l,q.rg FB (fun _ _=>de _) r⟩
def GPm(m:MA):aM:=fun v w=>∃A n c,v=jm m (.slice A n c)/\cG w 0 39 11 (.slice A n c) (aC m.roots)
theorem MW(m:MA)(G:Nat->Prop):(RG ie G).stable (GPm m):=fun v w w' r⟨A,n,c,l,q⟩=>⟨A,n,c,l,q.rg FB (fun _ _=>de _) r⟩
def C8(B:Nat)(m:MA):aM:=fun v w=>∃g A n c,v=.pointer (some ⟨g,0,none⟩)/\B<=g/\dB w g m (.slice A n c)/\cG w 0 39 11 (.slice A n c) (aC m.roots)
theorem C8.ext {B:Nat}{m:MA}(v:Value)(w w':World)(e:Ext w w')(h:C8 B m v w):C8 B m v w':=by obtain⟨g,A,n,c,l,q,C,F⟩:=h;exact⟨g,A,n,c,l,q,C.ext e,F.ext e⟩
theorem C8.st {B:Nat}{m:MA}{G:Nat->Prop}(T:Nat)(l:T≠86)(v:Value)(w w':World)(e:(RG ie G).st T w w')(h:C8 B m v w):C8 B m v w':=by obtain⟨g,A,n,c,C,F,H,I⟩:=h;exact⟨g,A,n,c,C,F,e.2.other H (fun q=>l (ah.1 q).symm),I.rg (fun q=>FB (ah.1 q▸e.1)) (fun _ _=>de _) e.2⟩
theorem nK(W:World)(a b c:Value):(Instr.extract (.tuple #[a,b,c]) 0).run Tryz.prog W=.ok a W/\(Instr.extract (.tuple #[a,b,c]) 1).run Tryz.prog W=.ok b W/\(Instr.extract (.tuple #[a,b,c]) 2).run Tryz.prog W=.ok c W:=by refine⟨?_,?_,?_⟩<;>go_simp
section
variable {P:Program}{r:Gt.Rl}{ops:Array Oper}{Q:Exit->Act->World->Prop}{w0:World}{R:Act->World->Prop}{ss:List (Nat × aM)}
theorem Gt.wpX_allocA33 {o:Oper}{rest:List Oper}{a:Act}{l:List (Nat×aM)}{d:Nat}(B:Nat)(q:∀m:r.Lt w0,B<=m.1.heap.size)(C:r.stable (VY B))(hg:eC ops o a l)(F:o.dst=some d)(G:Nat.blt d a.tmps.size=true)(ho:o.op=.alloc 50)(H:(bI o).all (fun t=>Nat.blt t a.tmps.size)=true)(I:Gt.wpX r Tryz.prog ops Q w0 R ss rest (a.put (some d) undef) ((d,VY B)::l)):Gt.wpX r Tryz.prog ops Q w0 R ss (o::rest) a l:=Gt.dX hg (VY B) C (fun _=>Instr.alloc 50 true (.tuple #[])) F G (by unfold bC;rw [ho]) H (fun f=>by unfold execOp;simp only [ho]) (fun m f J=>⟨_,_,FA m.1,r.dxe ((aa _ _).alloc (bh _) _),_,rfl,q m,_,aA m.1 _,rfl⟩) I
end
theorem VZ {w:World}{s v:Value}{xs:List Value}{m:MA}(h:RdN w s m.roots)(C:s=v\/s=.slice none 0 0)(F:cG w 0 39 11 v xs):cG w 0 39 11 s (aC m.roots):=⟨h,fun A n c l G=>by rcases C with rfl | rfl;(· exact F.2 A n c l G);· injection l with _ q _;omega⟩
theorem W0(k:Int)(m:MA):((m8 k m).roots=m.roots\/(m8 k m).roots=[])/\((m8 k m).sg=m.sg\/(m8 k m).sg=dL)/\((m8 k m).st=m.st\/(m8 k m).st=[]):=by
 unfold m8;split;· exact⟨.inl rfl,.inl rfl,.inl rfl⟩
 · exact⟨.inr rfl,.inr rfl,.inr rfl⟩
theorem a02 {k:Int}{m:MA}(C:smL m.roots)(F:df m.sg)(G:m.st.length<=maxLen):smL (m8 k m).roots/\df (m8 k m).sg/\(m8 k m).st.length<=maxLen/\(m8 k m).roots.length<=m.roots.length:=by
 obtain⟨l,H,I⟩:=W0 k m;refine⟨?_,?_,?_,?_⟩;· rcases l with q | q<;>rw [q];(· exact C);· exact fun c J=>(by cases J)
 · rcases H with q | q<;>rw [q];(· exact F);· show([]:List UInt8).length<=maxLen;exact de _
 · rcases I with q | q<;>rw [q];(· exact G);· exact de _
 · rcases l with q | q<;>rw [q];(· exact bh _);· exact de _
theorem RB(S:ST)(m:MA)(day:Int):(accM S m day).1.roots=S.roots/\(accM S m day).1.pool=S.pool/\(accM S m day).1.rs=S.rs/\(accM S m day).1.ds=S.ds:=by
 unfold accM;split;· exact⟨rfl,rfl,rfl,rfl⟩
 · split;(· split<;>exact⟨rfl,rfl,rfl,rfl⟩);· split<;>exact⟨rfl,rfl,rfl,rfl⟩
theorem RD(S:ST)(r:RV)(day:Int):(accR S r day).1.roots=S.roots/\(accR S r day).1.pool=S.pool/\(accR S r day).1.ms=S.ms/\(accR S r day).1.ds=S.ds:=by
 unfold accR;split;· exact⟨rfl,rfl,rfl,rfl⟩
 · split;(· exact⟨rfl,rfl,rfl,rfl⟩);· split;(· exact⟨rfl,rfl,rfl,rfl⟩);· split;(· split<;>exact⟨rfl,rfl,rfl,rfl⟩);· split<;>exact⟨rfl,rfl,rfl,rfl⟩
theorem RfA.sts {w w':World}{s0 s1 s2 s3 s4:dd}{S:ST}{ps:List (MA×Value)}{m:MA}{v:Value}{r:ST×Int}{e:Ending}(h:RfA w s0 s1 s2 s3 s4 S ps m v r e w')(G:StS w s0 s1 s2 s3 s4 S)(H:∀p∈ps,cG w 0 39 11 p.2 (aC p.1.roots))(I:cG w 0 39 11 v (aC m.roots)): ∃t2:dd,e=.returned (.tuple #[cE s0 s1 t2 s3 s4,.int .i64 r.2])/\Ext w w'/\StS w' s0 s1 t2 s3 s4 r.1:=by
 obtain⟨t2,J,C,K⟩:=h;have l:=G.kp (Kp.ext C);refine⟨t2,J,C,?_⟩;rcases K with⟨rfl,F⟩ | ⟨N,F,O,Q⟩;· rw [F];exact l
 · rw [O];exact⟨l.r,l.p,⟨N,rfl,F.safe 0,fun p U=>by rcases Q p U with q | rfl;(· exact(H p q).ext C);· exact I.ext C⟩,l.v,l.d⟩
theorem RfB.sts {w w':World}{s0 s1 s2 s3 s4:dd}{S:ST}{ps:List (RV×Value)}{m:RV}{v:Value}{r:ST×Int}{e:Ending}(h:RfB w s0 s1 s2 s3 s4 S ps m v r e w')(G:StS w s0 s1 s2 s3 s4 S)(H:∀p∈ps,cG w 0 3 1 p.2 (bH p.1.ser))(I:cG w 0 3 1 v (bH m.ser)): ∃t3:dd,e=.returned (.tuple #[cE s0 s1 s2 t3 s4,.int .i64 r.2])/\Ext w w'/\StS w' s0 s1 s2 t3 s4 r.1:=by
 obtain⟨t3,J,C,K⟩:=h;have l:=G.kp (Kp.ext C);refine⟨t3,J,C,?_⟩;rcases K with⟨rfl,F⟩ | ⟨N,F,O,Q⟩;· rw [F];exact l
 · rw [O];exact⟨l.r,l.p,l.m,⟨N,rfl,F.safe 0,fun p U=>by rcases Q p U with q | rfl;(· exact(H p q).ext C);· exact I.ext C⟩,l.d⟩
def AuV(n:Int)(w:World)(x:AB):Prop:=∃l:List Int,cG w 0 3 1 x.V (bH l)/\(l.length:Int)<=n/\l.Pairwise (·<·)/\∀v∈l,1<=v/\v<=8
theorem AuV.kp {n:Int}{w w':World}{x:AB}(h:AuV n w x)(k:Kp w w'):AuV n w' x:=by obtain⟨l,q,C⟩:=h;exact⟨l,q.kp vL k,C⟩
theorem AuV.mono {n l:Int}{w:World}{x:AB}(h:AuV n w x)(k:n<=l):AuV l w x:=by obtain⟨q,C,F,G⟩:=h;exact⟨q,C,Int.le_trans F k,G⟩
def AvL(n:Int)(w:World)(xs:List AB):Prop:=∀x∈xs,AuV n w x
theorem AvL.kp {n:Int}{w w':World}{xs:List AB}(h:AvL n w xs)(k:Kp w w'):AvL n w' xs:=fun x l=>(h x l).kp k
theorem AvL.mono {n l:Int}{w:World}{xs:List AB}(h:AvL n w xs)(k:n<=l):AvL l w xs:=fun x q=>(h x q).mono k
theorem W5 {l:List Int}{n x:Int}(h:x∈fI l n):x∈l\/x=n:=by
 unfold fI at h;rcases List.mem_append.1 h with h | h;· exact .inl (List.mem_filter.1 h).1
 · rcases List.mem_cons.1 h with h | h;(· exact .inr h);· exact .inl (List.mem_filter.1 h).1
theorem a03 {l:List Int}{n:Int}(h:l.Pairwise (·<·)):(fI l n).Pairwise (·<·):=by
 unfold fI;refine List.pairwise_append.2 ⟨h.filter _,List.pairwise_cons.2 ⟨fun y q=>by simpa using(List.mem_filter.1 q).2,h.filter _⟩,fun x C y q=>?_⟩;have F:x<n:=by simpa using(List.mem_filter.1 C).2
 rcases List.mem_cons.1 q with rfl | q;· exact F
 · have:n<y:=(by simpa using(List.mem_filter.1 q).2);omega
theorem JT(l:List Int)(n:Int):(fI l n).length<=l.length+1:=by
 unfold fI;rw [cz,dq];have:∀l:List Int,(l.filter fun x=>decide (x<n)).length+(l.filter fun x=>decide (n<x)).length<=l.length:=by intro l;induction l with | nil=>exact bh _ | cons a l q=>rw [List.filter_cons,List.filter_cons,dq];by_cases h1:a<n;(· rw [ax (ay h1),ao (by simp;omega),dq];omega);· rw [ao (by simpa using h1)];split;(· rw [dq];omega);· omega
 have:=this l;omega
def dsT:List Nat:=[50,88,107]
theorem a13:107∈dsT:=by unfold dsT;decide
theorem a14:50∈dsT:=by unfold dsT;decide
theorem a15:88∈dsT:=by unfold dsT;decide
theorem qM:3∉dsT:=by unfold dsT;decide
theorem cH.rgs {w w':World}{D b:Nat}{L:List Int}{S:List Nat}{G:Nat->Prop}(h:cH w D b L)(r:dp S G w w')(l:¬G D)(C:¬G b):cH w' D b L:=h.keep ((r.block D h.lt).resolve_right fun q=>l q.1) ((r.block b h.ltb).resolve_right fun q=>C q.1)
theorem Gb.rgsD {w w':World}{D b:Nat}(g:Gb D w w')(h:∃M,cH w D b M)(k:∃M,cH w' D b M):dp [107] (fun q=>q=D) w w':=by
 obtain⟨M,A,n,c,i,f,l,_⟩:=h;obtain⟨F,G,H,I,J,K,k1,_⟩:=k;refine⟨g.os,g.tape,g.output,g.size,fun q C=>?_⟩;by_cases e:q=D;· subst e;exact .inr ⟨rfl,_,_,_,_,ah.2 rfl,l,k1,rfl⟩
 · exact .inl (g.block q C (fun z=>e (by injection z)))
def gj (D b B:Nat) (hD:D<B) (hb:b<B):Gt.Rl where
 rel w w':=dp dsT (fun q=>q=D \/ B<=q) w w'/\((∃ M,cH w D b M)->∃ M,cH w' D b M)
 st T w w':=T ∈ dsT/\dp [T] (fun q=>B<=q) w w'
 refl w:=⟨dp.refl _ _ _,id⟩
 tr h k:=⟨h.1.tr k.1,fun q=>k.2 (h.2 q)⟩
 ext e:=⟨⟨e.os,e.tape,e.output,e.size,fun k hk=>.inl (e.block k hk)⟩,fun ⟨M,h⟩=>⟨M,h.ext e⟩⟩
 sub h:=⟨h.2.sub (fun T hT=>by rw [ah.1 hT];exact h.1) (fun _ q=>.inr q),fun ⟨M,q⟩=>⟨M,q.rgs h.2 (by omega) (by omega)⟩⟩
 dx w w':=dp [107] (fun q=>q=D) w w'/\((∃ M,cH w D b M)->∃ M,cH w' D b M)
 dxe e:=⟨⟨e.os,e.tape,e.output,e.size,fun k hk=>.inl (e.block k hk)⟩,fun ⟨M,h⟩=>⟨M,h.ext e⟩⟩
 dxs h:=⟨h.1.sub (fun T hT=>by rw [ah.1 hT];exact a13) (fun _ q=>.inl q),h.2⟩
theorem W6 {D b B:Nat}{q:D<B}{C:b<B}{w:World}(n:Int)(h:∃M,cH w D b M)(F:1<=n)(G:n<=4611686018427387904):Calls Tryz.prog 28 #[.pointer (some ⟨D,0,none⟩),.int .i64 n] w fun e w'=>∃v,e=.returned v/\(gj D b B q C).dx w w'/\GZ n v w' :=(lY (b:=b) n h F G).mono fun e w'⟨v,H,l,I⟩=>⟨v,H,⟨Gb.rgsD l.1 h (l.2 h),l.2⟩,I⟩
def GQt(n:Int)(x:AB)(k:Int->RV)(F:Int->Int):aM:=fun v w=>∃(z:Int)(A:Option Addr)(l c:Nat)(q:Option Addr)(C c2:Nat),(1<=z/\z<=8)/\v=.tuple #[gt {x with V:=.slice A l c,li:=x.li+1},gk (k z) (.slice q C c2),.int .i64 (F z)]/\AuV (n+1) w {x with V:=.slice A l c,li:=x.li+1}/\cG w 0 3 1 (.slice q C c2) (bH (k z).ser)/\(k z).ser.length<=10000
theorem AuV.rgs {n:Int}{w w':World}{x:AB}{S:List Nat}{G:Nat->Prop}(h:AuV n w x)(r:dp S G w w')(l:3∉S):AuV n w' x:=by obtain⟨q,C,F⟩:=h;exact⟨q,C.rg l (fun _ _=>de _) r,F⟩
section
variable {D b B:Nat}{hD:D<B}{hb:b<B}
theorem BC(n:Int)(x:AB)(k:Int->RV)(l:Int->Int):(gj D b B hD hb).stable (GQt n x k l):=fun v w w' r⟨z,A,q,c,C,F,c2,G,H,I,J,K⟩=>⟨z,A,q,c,C,F,c2,G,H,I.rgs r.1 qM,J.rg qM (fun _ _=>de _) r.1,K⟩
def GQa(n:Int)(x:AB):aM:=fun v w=>∃(A:Option Addr)(l c:Nat),v=gt {x with V:=.slice A l c,li:=x.li+1}/\AuV (n+1) w {x with V:=.slice A l c,li:=x.li+1}
theorem MX(n:Int)(x:AB):(gj D b B hD hb).stable (GQa n x):=fun v w w' r⟨A,l,c,q,C⟩=>⟨A,l,c,q,C.rgs r.1 qM⟩
def GQr(k:Int->RV):aM:=fun v w=>∃(z:Int)(l:Option Addr)(q c2:Nat),(1<=z/\z<=8)/\v=gk (k z) (.slice l q c2)/\cG w 0 3 1 (.slice l q c2) (bH (k z).ser)/\(k z).ser.length<=10000
theorem MY(k:Int->RV):(gj D b B hD hb).stable (GQr k):=fun v w w' r⟨z,l,q,c2,C,F,G,H⟩=>⟨z,l,q,c2,C,F,G.rg qM (fun _ _=>de _) r.1,H⟩
def GQk:aM:=fun v _=>∃z:Int,v=.int .i64 z
theorem MZ:(gj D b B hD hb).stable GQk:=fun _ _ _ _ h=>h
theorem N0(n:Int):(gj D b B hD hb).stable (GZ n):=fun _ _ _ _ h=>h
theorem FC:(gj D b B hD hb).stable (VY B):=fun v w w' r⟨g,l,q,C⟩=>⟨g,l,q,C.rg r.1⟩
theorem FD:(gj D b B hD hb).stable (VI B):=fun v w w' r⟨g,l,q,C⟩=>⟨g,l,q,C.rg r.1⟩
end
def W7(B:Nat)(n:Int)(x:AB):aM:=fun v w=>∃(g:Nat)(A:Option Addr)(l c:Nat),v=.pointer (some ⟨g,0,none⟩)/\B<=g/\aV w g {x with V:=.slice A l c,li:=x.li+1}/\AuV (n+1) w {x with V:=.slice A l c,li:=x.li+1}
def W8(B:Nat)(k:Int->RV):aM:=fun v w=>∃(g:Nat)(z:Int)(l:Option Addr)(q c2:Nat),(1<=z/\z<=8)/\v=.pointer (some ⟨g,0,none⟩)/\B<=g/\dF w g (k z) (.slice l q c2)/\cG w 0 3 1 (.slice l q c2) (bH (k z).ser)/\(k z).ser.length<=10000
section
variable {S:List Nat}{G:Nat->Prop}
theorem W7.rg {B:Nat}{n:Int}{x:AB}{v:Value}{w w':World}(e:dp S G w w')(l:50∉S)(q:3∉S)(h:W7 B n x v w):W7 B n x v w':=by obtain⟨g,A,C,c,F,H,I,J⟩:=h;exact⟨g,A,C,c,F,H,e.other I l,J.rgs e q⟩
theorem W8.rg {B:Nat}{k:Int->RV}{v:Value}{w w':World}(e:dp S G w w')(l:88∉S)(q:3∉S)(h:W8 B k v w):W8 B k v w':=by obtain⟨g,z,C,F,c2,H,I,J,K,N,O⟩:=h;exact⟨g,z,C,F,c2,H,I,J,e.other K l,N.rg q (fun _ _=>de _) e,O⟩
end
theorem W9(W:World)(z:Int)(l:0<=z)(q:z<1000):(binOp .add 3 (.int .i64 1) (.int .i64 z)).run Tryz.prog W=.ok (.int .i64 (1+z)) W:=by have e:IntKind.i64.wrap (1+z)=1+z:=ag _ (by omega);go_simp
def GZ1:aM:=fun v _=>∃z:Int,v=.int .i64 z/\1<=z/\z<=8
theorem N1 {D b B:Nat}{hD:D<B}{hb:b<B}:(gj D b B hD hb).stable GZ1:=fun _ _ _ _ h=>h
theorem WA(k:Int)(r:RV):(kY k r).ser=r.ser\/(kY k r).ser=[]:=by
 unfold kY;split;· exact .inl rfl
 · exact .inr rfl
theorem a04(k:Int)(r:RV)(h:r.st.length<=maxLen):(kY k r).st.length<=maxLen:=by
 unfold kY;split;· exact h
 · exact de _
theorem WC(S:ST)(r:RV)(day:Int):(accR S r day).1.rs.length<=S.rs.length+1:=by
 unfold accR;split;· exact Nat.le_succ _
 · split;(· exact Nat.le_succ _);· split;(· exact Nat.le_succ _);· split;(· split;(· exact Nat.le_succ _);· show(S.rs.set _ r).length<=_;rw [List.length_set];exact Nat.le_succ _);· split;(· exact Nat.le_succ _);· show(S.rs++[r]).length<=_;rw [cz];exact bh _
theorem aK.same {w w':World}{B:Nat}{e:TypeId}{k:Nat}{v:Value}{xs:List Value}(h:aK w B e k v xs)(hb:∀g,aQ v=some g->w'.heap[g]?=w.heap[g]?):aK w' B e k v xs:=by
 obtain⟨A,n,c,rfl,l,h | ⟨g,C,rfl,F,G,H,I⟩⟩:=h;· exact⟨A,n,c,rfl,l,.inl h⟩
 · by_cases hc0:c=0;(· exact⟨_,n,c,rfl,l,.inl ⟨by omega,hc0⟩⟩);· refine⟨_,n,c,rfl,l,.inr ⟨g,C,rfl,F,(hb g ?_).trans G,H,I⟩⟩;obtain⟨q,rfl⟩:∃q,c=q+1:=⟨c - 1,by omega⟩;rfl
theorem WI.ds {w wr wx:World}{P D b:Nat}{v:Value}{s0 s1 s2 s3 s4:dd}{day:Int}{xs:List AB}{hD:D<wr.heap.size}{hb:b<wr.heap.size}(h:WI w P D b v s0 s1 s2 s3 s4 day xs wr)(q:WB w P D b)(r:(gj D b wr.heap.size hD hb).rel wr wx):WI w P D b v s0 s1 s2 s3 s4 day xs wx/\Kp wr wx:=by
 have I:=q.D1;have J:=q.D2;obtain⟨r1,r2⟩:=r;have F:∀k,k<wr.heap.size->k≠D->wx.heap[k]?=wr.heap[k]?:=fun k C K=>(r1.block k C).resolve_right fun z=>by rcases z.1 with z | z<;>omega
 have G:=a9 h.po;refine⟨⟨h.ext.trans (r1.below (B:=w.heap.size) (fun k z=>by rcases z with z | z<;>omega) h.ext.size),r2 h.dice,(F _ (a9 h.rz) (by omega)).trans h.rz,(F _ G (by omega)).trans h.po,h.own.same fun g hg=>F g ?_ ?_⟩,fun e k N fr H C=>?_⟩;· obtain⟨A,n,c,e,_,z | ⟨g1,O,rfl,_,z,_⟩⟩:=h.own;(· subst e;obtain⟨rfl,rfl⟩:=z;cases A<;>simp [aQ]at hg);· subst e;cases c with | zero=>simp [aQ]at hg | succ Q=>have:g1=g:=(by simpa [aQ]using hg);rw [<- this];exact a9 z
 · have:=aZ h.own _ hg;omega
 · refine(F k (a9 C) (fun z=>?_)).trans C;subst z;obtain⟨M,A,n,c,i,f,l,_⟩:=h.dice;rw [C]at l;injection l with l;injection l with _ l _;exact OV (l▸H)
namespace Gt
section
variable {r:Gt.Rl}{P:Program}{ops:Array Oper}{Q:Exit->Act->World->Prop}{w0:World}{R:Act->World->Prop}{ss:List (Nat × aM)}
theorem BE {o:Oper}{rest:List Oper}{a:Act}{hs:List (Nat × aM)}{d:Nat} (hg:eC ops o a hs) (g:aM) (hst:r.stable g) {bop:BinOp}{t u:TypeId}{x y:Operand} (xv yv:(Nat->Value)->Value)
 (hd:o.dst=some d) (hz:Nat.blt d a.tmps.size=true) (ho:o.op=.binOp bop t x y u) (hin:(bI o).all (fun t=>Nat.blt t a.tmps.size)=true) (hqx:oE a x=true) (hqy:oE a y=true) (hx:∀ f,ja a hs f x=xv f) (hy:∀ f,ja a hs f y=yv f)
 (h:∀ (m:r.Lt w0) (f:Nat->Value),(∀ t p,hs.lookup t=some p->(bI o).contains t=true->p (f t) m.1)->∃ v w'',(do eqGuard bop t x y (xv f) (yv f);binOp bop t (xv f) (yv f)).run P m.1=.ok v w''/\r.dx m.1 w''/\g v w'')
 (hr:Gt.wpX r P ops Q w0 R ss rest (a.put (some d) undef) ((d,g)::hs)):Gt.wpX r P ops Q w0 R ss (o::rest) a hs :=
 dX hg g hst (fun f=>do eqGuard bop t x y (xv f) (yv f);binOp bop t (xv f) (yv f)) hd hz (by unfold bC;rw [ho]) hin (fun f=>by unfold execOp;simp only [ho];rw [fK hqx,fK hqy,hx f,hy f]) h hr
end
end Gt
def C9(n:Nat)(l:List UInt8):Prop:=l.length=n/\∀b∈l,lW (b.toNat:Int)
def GSt(n:Nat):aM:=fun v _=>∃l:List UInt8,v=.string (aD l)/\C9 n l
theorem DG {n:Nat}{l:List UInt8}(h:C9 n l):C9 (n+1) (65::l):=⟨by rw [dq,h.1],fun b hb=>by rcases List.mem_cons.1 hb with rfl | hb;(· exact .inl (by unfold gg;decide));· exact h.2 b hb⟩
theorem WD(x y:Nat)(l:x<10)(q:y<10):C9 2 [u8 (48+(x:Int)),u8 (48+(y:Int))]:=⟨rfl,fun b hb=>by simp only [List.mem_cons,List.not_mem_nil,or_false]at hb;rcases hb with rfl | rfl;(· rw [eO];exact .inr (by unfold jo;omega));· rw [eO];exact .inr (by unfold jo;omega)⟩
theorem C9.doc {n:Nat}{l:List UInt8}(h:C9 n l)(C:1<=n)(F:n<=20):gM l:=by refine⟨⟨by rw [h.1];exact C,by rw [h.1];exact F⟩,fun i q=>?_⟩;have:=h.2 (l[i]) (List.getElem_mem q);unfold cA;rw [bj,dg q];exact this
structure DfK (n:Int) (y:DF):Prop where
 fi:C9 3 y.fi
 la:C9 3 y.la
 k:1<=y.kind/\y.kind<=5
 p:y.param=0
 s:y.signer=n
structure DfL (n:Int) (y:DF):Prop where
 fi:C9 3 y.fi
 la:C9 3 y.la
 k:1<=y.kind/\y.kind<=5
 p:dfG y=true/\y.param=2 \/ dfG y=false/\y.param=0
 s:y.signer=n
theorem DfL.fine {n:Int}{y:DF}(h:DfL n y)(hb:Op.bytesLess y.la y.fi=false)(C:eF n):ff y=0:=by
 refine kG (by have:=h.k;omega) ?_ ?_;· unfold gP;rw [h.s,ay C];rcases h.p with⟨l,q⟩ | ⟨l,q⟩<;>rw [l,q]<;>rfl
 · unfold iN nB;rw [ay (h.fi.doc (by omega) (by omega)),ay (h.la.doc (by omega) (by omega)),ax (by rw [h.fi.1,h.la.1]),hb];rfl
theorem DfL.swap {n:Int}{y:DF}(h:DfL n y):DfL n ⟨y.kind,y.param,y.signer,y.la,y.fi⟩:=⟨h.la,h.fi,h.k,h.p,h.s⟩
theorem WE {a b:List UInt8}(h:(!(Op.bytesLess (aD a).toList (aD b).toList||(aD a).toList==(aD b).toList))=false):Op.bytesLess b a=false:=by rw [iQ,iQ]at h;rw [pH a b];exact h
theorem N2 {a b:List UInt8}(h:(!(Op.bytesLess (aD a).toList (aD b).toList||(aD a).toList==(aD b).toList))=true):Op.bytesLess a b=false:=by
 rw [iQ,iQ]at h;have l:Op.bytesLess b a=true:=by rw [pH a b];exact h
 rw [pH b a,l];rfl
theorem OX(W:World)(x y:Nat)(C:x<10)(F:y<10):(convert 48 9 (.slice (some ⟨W.heap.size,0,none⟩) 2 2)).run Tryz.prog (W.alloc (.cells #[.int .u8 (48+(x:Int)),.int .u8 (48+(y:Int))] 5))=.ok (.string (aD [u8 (48+(x:Int)),u8 (48+(y:Int))])) (W.alloc (.cells #[.int .u8 (48+(x:Int)),.int .u8 (48+(y:Int))] 5)):=by
 refine UN ?_;have h:=Rd.lit W #[.int .u8 (48+(x:Int)),.int .u8 (48+(y:Int))] 5 2 rfl (by unfold maxLen;omega);have e:ce [u8 (48+(x:Int)),u8 (48+(y:Int))]=[.int .u8 (48+(x:Int)),.int .u8 (48+(y:Int))]:=by have l:((u8 (48+(x:Int))).toNat:Int)=48+(x:Int):=(by rw [eO];omega);have q:((u8 (48+(y:Int))).toNat:Int)=48+(y:Int):=(by rw [eO];omega);simp [ce,bv,l,q]
 rw [e];exact h
set_option maxHeartbeats 2000000 in theorem OY(n:Int)(w:World)(q:-9223372036854775808<=n)(C:n<9223372036854775808):Calls Tryz.prog 66 #[.int .i64 n] w fun e w'=>∃v,e=.returned v/\Ext w w'/\GSt 2 v w':=by
 have l:=fF n 100 w q C (by omega);have hb:=fV (x:=n) (m:=100) (by omega);obtain⟨k,F⟩:∃k:Nat,dQ n 100=(k:Int):=⟨(dQ n 100).toNat,by omega⟩;rw [F]at l hb;have G:=ab (fun W=>OX W (k/10) (k % 10) (by omega) (by omega));have H:=ab (WD (k/10) (k % 10) (by omega) (by omega));have I:((k:Int)).tdiv 10=((k/10:Nat):Int):=by rw [Int.tdiv_eq_ediv_of_nonneg (by omega)];omega
 have J:((k:Int)).tmod 10=((k % 10:Nat):Int):=by rw [Int.tmod_eq_emod_of_nonneg (by omega)];omega
 have K:IntKind.i64.wrap ((k/10:Nat):Int)=((k/10:Nat):Int):=ag _ (by omega);have N:IntKind.i64.wrap ((k % 10:Nat):Int)=((k % 10:Nat):Int):=ag _ (by omega);have O:IntKind.i64.wrap (48+((k/10:Nat):Int))=48+((k/10:Nat):Int):=ag _ (by omega);have Q:IntKind.i64.wrap (48+((k % 10:Nat):Int))=48+((k % 10:Nat):Int):=ag _ (by omega);have v1:IntKind.u8.wrap (48+((k/10:Nat):Int))=48+((k/10:Nat):Int):=by show(48+((k/10:Nat):Int)) % 256=_;omega
 have v2:IntKind.u8.wrap (48+((k % 10:Nat):Int))=48+((k % 10:Nat):Int):=by show(48+((k % 10:Nat):Int)) % 256=_;omega
 generalize k/10=x at*;generalize k % 10=y at*;clear F hb q C;go_in;go_wp2_with fail;refine l.mono ?_;rintro e U⟨rfl,rfl⟩;clear l;go_wp2_with(refine pB rfl rfl rfl (G _) ?_);go_ret;exact⟨_,rfl,(aa _ _).alloc (bh _) _,_,rfl,H.out⟩
theorem JU {P:Program}(t:TypeId)(l:List UInt8)(G:l.length<=100)(W:World):(binOp .add t (.string ⟨#[65]⟩) (.string (aD l))).run P W=.ok (.string (aD (65::l))) W:=by
 have q:(⟨#[65]⟩:ByteArray).size=1:=rfl;have C:(aD l).size=l.length:=by show l.toArray.size=_;simp
 have F:(⟨#[65]⟩:ByteArray)++aD l=aD (65::l):=by apply ByteArray.ext;rw [ByteArray.data_append];show #[65]++l.toArray=(65::l).toArray;simp
 unfold binOp;simp only [Op.stringOp];rw [q,C,F];split;· have H:IntKind.i64.max=9223372036854775807:=rfl;omega
 · rfl
def dfT:List Nat:=[65]
theorem a16:65∈dfT:=ah.2 rfl
def a05(B:Nat):aM:=fun v w=>∃g,v=.pointer (some ⟨g,0,none⟩)/\B<=g/\mM w g 65 5
def a1A(n:Int):aM:=fun v _=>∃y:DF,v=ir y/\DfK n y
def CA(B:Nat)(n:Int):aM:=fun v w=>∃(g:Nat)(y:DF),v=.pointer (some ⟨g,0,none⟩)/\B<=g/\jC w g y/\DfK n y
theorem CA.ext {B:Nat}{n:Int}(v:Value)(w w':World)(e:Ext w w')(h:CA B n v w):CA B n v w':=by obtain⟨g,y,l,q,C,F⟩:=h;exact⟨g,y,l,q,C.ext e,F⟩
theorem CA.st {B:Nat}{n:Int}{S:List Nat}{G:Nat->Prop}(T:Nat)(l:T≠65)(v:Value)(w w':World)(e:(RG S G).st T w w')(h:CA B n v w):CA B n v w':=by obtain⟨g,y,C,F,H,I⟩:=h;exact⟨g,y,C,F,e.2.other H (fun q=>l (ah.1 q).symm),I⟩
theorem JV(B:Nat)(S:List Nat)(G:Nat->Prop):(RG S G).stable (a05 B):=fun v w w' r⟨g,l,q,C⟩=>⟨g,l,q,C.rg r⟩
theorem oB(n:Nat)(S:List Nat)(G:Nat->Prop):(RG S G).stable (GSt n):=fun _ _ _ _ h=>h
theorem JY(n:Int)(S:List Nat)(G:Nat->Prop):(RG S G).stable (a1A n):=fun _ _ _ _ h=>h
theorem JZ(W:World):(Instr.alloc 65 true (.tuple #[])).run Tryz.prog W=.ok (.pointer (some ⟨W.heap.size,0,none⟩)) (W.alloc (.cells #[.int .i64 0,.int .i64 0,.int .i64 0,.string ⟨#[]⟩,.string ⟨#[]⟩] 65)):=by go_simp
theorem rX(y:DF):(aY y).toArray.all (·.oneCell')=true:=by simp [aY,Value.oneCell']
theorem jC.row {w:World}{g:Nat}{y:DF}(h:jC w g y):w.heap[g]?=some (.cells (aY y).toArray 65 (0,0)):=h
theorem WF {w:World}{g:Nat}(h:mM w g 65 5)(y:DF): ∃w',(Instr.storeAt 65 (.pointer (some ⟨g,0,none⟩)) (ir y)).run Tryz.prog w=.ok () w'/\jC w' g y/\∀G:Nat->Prop,G g->dp [65] G w w':=by obtain⟨F,l,q⟩:=h;exact⟨_,dI (cells:=(aY y).toArray) l eX q (rX y),aT l,fun G C=>dp.setRow l (ah.2 rfl) C q.symm⟩
section
open Gd (eC)
variable {P:Program}
variable {r:Gt.Rl}{ops:Array Oper}{Q:Exit->Act->World->Prop}{w0:World}{R:Act->World->Prop}{ss:List (Nat × aM)}
theorem Gt.wpX_allocD5 {o:Oper}{rest:List Oper}{a:Act}{l:List (Nat×aM)}{d:Nat}(B:Nat)(q:∀m:r.Lt w0,B<=m.1.heap.size)(C:r.stable (a05 B))(hg:eC ops o a l)(F:o.dst=some d)(G:Nat.blt d a.tmps.size=true)(ho:o.op=.alloc 65)(H:(bI o).all (fun t=>Nat.blt t a.tmps.size)=true)(I:Gt.wpX r Tryz.prog ops Q w0 R ss rest (a.put (some d) undef) ((d,a05 B)::l)):Gt.wpX r Tryz.prog ops Q w0 R ss (o::rest) a l:=Gt.dX hg (a05 B) C (fun _=>Instr.alloc 65 true (.tuple #[])) F G (by unfold bC;rw [ho]) H (fun f=>by unfold execOp;simp only [ho]) (fun m f J=>⟨_,_,JZ m.1,r.dxe ((aa _ _).alloc (bh _) _),_,rfl,q m,_,aA m.1 _,rfl⟩) I
end
theorem K0(W:World)(k n:Int)(a b:List UInt8):(Instr.build 65 [(0,.int .i64 k),(2,.int .i64 n),(3,.string (aD a)),(4,.string (aD b))].toArray).run Tryz.prog W=.ok (ir ⟨k,0,n,a,b⟩) W:=by unfold ir aY;go_simp
def a1X(n:Int)(w:World)(e:Ending)(w':World):Prop:=∃y:DF,e=.returned (ir y)/\(y.fi.length=3/\y.la.length=3)/\(eF n->ff y=0)/\Ext w w'
structure DeZ (w wr:World) (x:AB):Prop where
 ext:Ext w wr
 a:aV wr w.heap.size x
 z:jC wr (w.heap.size+1) ⟨0,0,0,[],[]⟩
theorem DeZ.tr {w wr wx:World}{x:AB}(h:DeZ w wr x)(e:Ext wr wx):DeZ w wx x:=⟨h.ext.tr e,h.a.ext e,h.z.ext e⟩
set_option maxHeartbeats 8000000 in theorem DH(x:AB)(k f m:Int)(w:World)(k0:iT k)(f0:iT f)(m0:iT m):Calls Tryz.prog 29 #[gt x,.int .i64 k,.int .i64 f,.int .i64 m] w (a1X x.sg.num w):=by
 obtain⟨wa,b4,ea,TA⟩:=pP w x;obtain⟨wz,b0⟩:∃wz,wz=wa.alloc (.cells #[.int .i64 0,.int .i64 0,.int .i64 0,.string ⟨#[]⟩,.string ⟨#[]⟩] 65):=⟨_,rfl⟩;have ez:Ext wa wz:=by rw [b0];exact(aa _ _).alloc (bh _) _
 have b7:wa.heap.size=w.heap.size+1:=by rw [b4];simp
 have Z0:=ab (show DeZ w wz x from⟨ea.tr ez,TA.ext ez,by rw [<- b7,b0];exact aA wa _⟩);have b8:=ab (fun W=>fF k 5 W k0.1 k0.2 (by omega));have b9:=ab (fun W=>fF f 80 W f0.1 f0.2 (by omega));have bB:=ab (fun W=>fF m 20 W m0.1 m0.2 (by omega));have bS:=ab (fun W=>OY f W f0.1 f0.2);have b1:=fV (x:=k) (m:=5) (by omega);have b2:=fV (x:=f) (m:=80) (by omega);have b3:=fV (x:=m) (m:=20) (by omega);generalize dQ k 5=a1 at*;generalize dQ f 80=a2 at*;generalize dQ m 20=a3 at*;have cD:=ab (fun W=>OY (a2+a3) W (by omega) (by omega));have cR:IntKind.i64.wrap (1+a1)=1+a1:=ag _ (by omega);have cS:IntKind.i64.wrap (a2+a3)=a2+a3:=ag _ (by omega);have cI:=ab (show 1<=1+a1/\1+a1<=5 by omega);clear ea ez TA b7 k0 f0 m0 b1 b2 b3;go_in;go_upto_region 1 with fail;try unfold gt
 rw [<- b4,<- b0];clear b4 b0;refine Gt.aL (r:=RG dfT (fun k=>wz.heap.size<=k)) 19 (by kernel_rfl) (by kernel_rfl) ?_;simp only [eq,dw,ej,eh];intro wq cJ;have LR:∀m:(RG dfT (fun k=>wz.heap.size<=k)).Lt wq,dp dfT (fun k=>wz.heap.size<=k) wz m.1:=fun m=>dp.tr cJ m.2;have LB:∀m:(RG dfT (fun k=>wz.heap.size<=k)).Lt wq,Ext wz m.1:=fun m=>(LR m).below (fun _ h=>h) (bh _);have c6:=fun m:(RG dfT (fun k=>wz.heap.size<=k)).Lt wq=>(Z0.a.ext (LB m)).c6;have cl:=fun m:(RG dfT (fun k=>wz.heap.size<=k)).Lt wq=>(Z0.a.ext (LB m)).lt;repeat(refine Gt.aB rfl fun a6 I=>?_;go_big_quiet_op;refine I _ ?_;clear I a6)
 refine Gt.cB (Gd.gR rfl) (.int .i64 a1) (args:=[.int .i64 k,.int .i64 5]) rfl rfl rfl rfl (by kernel_rfl) rfl rfl (fun m=>(b8 m.1).mono fun _ _⟨h1,h2⟩=>⟨h1,h2▸aa _ _⟩) ?_;simp only [Act.put,bz,bu,bt];repeat(refine Gt.aB rfl fun a6 I=>?_;go_big_quiet_op;refine I _ ?_;clear I a6)
 refine Gt.aR (Gd.gR rfl) (GSt 2) (oB _ _ _) (fun _=>[.int .i64 f]) rfl rfl rfl rfl rfl (by kernel_rfl) rfl (fun _=>rfl) (fun m _ _=>bS m.1) ?_;simp only [Act.put,bz,bu,bt];refine Gt.BE (Gd.gR rfl) (GSt 3) (oB _ _ _) (fun _=>.string ⟨#[65]⟩) (fun h=>h 17) rfl rfl rfl rfl rfl rfl (fun _=>rfl) (fun _=>rfl) (fun m h X=>?_) ?_;· obtain⟨b5,e1,hl⟩:=X 17 _ rfl rfl;rw [e1];exact⟨_,_,JU 9 b5 (by rw [hl.1];omega) m.1,aa _ _,_,rfl,DG hl⟩
 simp only [Act.put,bz,bu,bt];repeat(refine Gt.aB rfl fun a6 I=>?_;go_big_quiet_op;refine I _ ?_;clear I a6)
 refine Gt.cB (Gd.gR rfl) (.int .i64 a2) (args:=[.int .i64 f,.int .i64 80]) rfl rfl rfl rfl (by kernel_rfl) rfl rfl (fun m=>(b9 m.1).mono fun _ _⟨h1,h2⟩=>⟨h1,h2▸aa _ _⟩) ?_;simp only [Act.put,bz,bu,bt];repeat(refine Gt.aB rfl fun a6 I=>?_;go_big_quiet_op;refine I _ ?_;clear I a6)
 refine Gt.cB (Gd.gR rfl) (.int .i64 a3) (args:=[.int .i64 m,.int .i64 20]) rfl rfl rfl rfl (by kernel_rfl) rfl rfl (fun m=>(bB m.1).mono fun _ _⟨h1,h2⟩=>⟨h1,h2▸aa _ _⟩) ?_;simp only [Act.put,bz,bu,bt];repeat(refine Gt.aB rfl fun a6 I=>?_;go_big_quiet_op;refine I _ ?_;clear I a6)
 refine Gt.aR (Gd.gR rfl) (GSt 2) (oB _ _ _) (fun _=>[.int .i64 (a2+a3)]) rfl rfl rfl rfl rfl (by kernel_rfl) rfl (fun _=>rfl) (fun m _ _=>cD m.1) ?_;simp only [Act.put,bz,bu,bt];refine Gt.BE (Gd.gR rfl) (GSt 3) (oB _ _ _) (fun _=>.string ⟨#[65]⟩) (fun h=>h 24) rfl rfl rfl rfl rfl rfl (fun _=>rfl) (fun _=>rfl) (fun m h X=>?_) ?_;· obtain⟨b5,e1,hl⟩:=X 24 _ rfl rfl;rw [e1];exact⟨_,_,JU 9 b5 (by rw [hl.1];omega) m.1,aa _ _,_,rfl,DG hl⟩
 simp only [Act.put,bz,bu,bt];refine Gt.bV (Gd.gR rfl) (a1A x.sg.num) (JY _ _ _) (fun h=>[(0,.int .i64 (1+a1)),(2,.int .i64 x.sg.num),(3,h 18),(4,h 25)]) rfl rfl rfl rfl rfl (fun _=>rfl) (fun m h X=>?_) ?_;· obtain⟨la,e1,ha⟩:=X 18 _ rfl rfl;obtain⟨lb,e2,hb⟩:=X 25 _ rfl rfl;rw [e1,e2];exact⟨_,_,K0 m.1 (1+a1) x.sg.num la lb,aa _ _,_,rfl,ha,hb,cI,rfl,rfl⟩
 simp only [Act.put,bz,bu,bt];refine Gt.wpX_allocD5 wz.heap.size (fun m=>(LB m).size) (JV _ _ _) (Gd.gR rfl) rfl rfl rfl rfl ?_;simp only [Act.put,bz,bu,bt];refine Gt.dH (Gd.gR rfl) (CA wz.heap.size x.sg.num) (fun h=>h 9) (fun h=>h 26) rfl rfl rfl rfl rfl (fun _=>rfl) (fun _=>rfl) CA.ext CA.st (fun m h X=>?_) ?_;· obtain⟨g,e9,hg,bg⟩:=X 9 _ rfl rfl;obtain⟨y,cU,h1⟩:=X 26 _ rfl rfl;rw [e9,cU];obtain⟨w9,q1,q2,O⟩:=WF bg y;exact⟨w9,q1,⟨a16,O _ hg⟩,g,y,rfl,hg,q2,h1⟩
 refine Gt.wpX_endG rfl (fun m h X cL=>?_);have hq:CA wz.heap.size x.sg.num (h 9) m.1:=cL _ fm;obtain⟨g,y,e9,hg,TY,l1⟩:=hq;simp only [bQ];simp only [Act.put,bz,bu,bt];rw [e9];have Q:=ab (Z0.tr (LB m));have q:=ab TY;have U:=ab l1;have HG:=ab (show w.heap.size+1<g from by have:=Z0.z.lt;omega);clear cL X e9 LR LB cJ c6 cl TY l1 cI cR cS b8 b9 bB bS cD Z0 hg;generalize m.1=wm at*;generalize h 17=cX at*;generalize h 18=d2 at*;generalize h 24=d5 at*;generalize h 25=d6 at*;generalize h 26=d7 at*;clear m h;show wpList _ _ _ _ _ _;by_cases k1:y.kind=1
 case pos=>have b6:=ab (show dfG y=true by unfold dfG;rw [ay k1];rfl);have kb:(y.kind==1)=true:=(by simpa using k1);clear k1;have f1:=q.frozen 1;have d0:=q.c0;have d1:=q.c1;have J:=q.lt;obtain⟨Y,a7⟩:∃Y,Y=wm.setCell ⟨g,1,none⟩ (.int .i64 2):=⟨_,rfl⟩;obtain⟨l,a8⟩:∃l:DF,l=⟨y.kind,2,y.signer,y.fi,y.la⟩:=⟨_,rfl⟩;have H:=ab (show jC Y g l by rw [a7,a8];exact aG q.row 1 (.int .i64 2));have ZN:=ab (show DeZ w Y x by rw [a7];have:=HG.out;exact⟨aI Q.ext (by omega),Q.a.other (by omega),(aP (by omega)).trans Q.z⟩);have C:=ab (show DfL x.sg.num l by rw [a8];exact⟨U.fi,U.la,U.k,.inl ⟨b6,rfl⟩,U.s⟩);clear a8;go_upto_region 4 with fail;rw [<- a7];clear a7 f1 d0 d1 J kb q Q;have d3:=H.c3;have d4:=H.c4;have J:=H.lt;cases F:(!(Op.bytesLess (aD l.fi).toList (aD l.la).toList||(aD l.fi).toList==(aD l.la).toList))with | false=>have a0:=ab (WE F);have O:∀W:World,(binOp .gtr 9 (.string (aD l.fi)) (.string (aD l.la))).run Tryz.prog W=.ok (.bool false) W:=fun W=>(by rw [kH,F]);clear F;go_upto_region 6 with fail;clear O d3 d4 J;have a4:=ab H.row;have G:=ab ZN.z.row;have a5:=ab (rX l);go_wp2_with(first | (refine am rfl 65 _ rfl g rfl 65 (aY l).toArray (0,0) _ a4 Tryz.underlying65 rfl eX ?_) | (refine aF rfl 65 _ _ rfl rfl (w.heap.size+1) (aY l).toArray rfl rfl 65 (aY ⟨0,0,0,[],[]⟩).toArray G eX rfl a5 ?_));have HY:=ab (aT (cells:=(aY l).toArray) G);refine az (v:=.agg (aY l).toArray) ?_ rfl ⟨_,rfl,⟨C.fi.1,C.la.1⟩,C.fine a0,aJ ZN.ext (Nat.le_succ _) _⟩;exact bp rfl _ _ (w.heap.size+1) 65 (aY l).toArray (0,0) _ rfl HY Tryz.underlying65 rfl eX | true=>have a0:=ab (N2 F);have O:∀W:World,(binOp .gtr 9 (.string (aD l.fi)) (.string (aD l.la))).run Tryz.prog W=.ok (.bool true) W:=fun W=>(by rw [kH,F]);clear F;have f3:=H.frozen 3;have f4:=H.frozen 4;obtain⟨K,N⟩:∃K,K=(Y.setCell ⟨g,3,none⟩ (.string (aD l.la))).setCell ⟨g,4,none⟩ (.string (aD l.fi)):=⟨_,rfl⟩;have TS:=ab (show jC K g ⟨l.kind,l.param,l.signer,l.la,l.fi⟩by rw [N];exact aG (aG H.row 3 (.string (aD l.la))) 4 (.string (aD l.fi)));have ZS:=ab (show DeZ w K x by rw [N];have:=HG.out;exact⟨aI (aI ZN.ext (by omega)) (by omega),(ZN.a.other (by omega)).other (by omega),(aP (by omega)).trans ((aP (by omega)).trans ZN.z)⟩);go_upto_region 6 with fail;rw [<- N];clear N O d3 d4 J f3 f4;have a4:=ab TS.row;have G:=ab ZS.z.row;have a5:=ab (rX ⟨l.kind,l.param,l.signer,l.la,l.fi⟩);go_wp2_with(first | (refine am rfl 65 _ rfl g rfl 65 (aY ⟨l.kind,l.param,l.signer,l.la,l.fi⟩).toArray (0,0) _ a4 Tryz.underlying65 rfl eX ?_) | (refine aF rfl 65 _ _ rfl rfl (w.heap.size+1) (aY ⟨l.kind,l.param,l.signer,l.la,l.fi⟩).toArray rfl rfl 65 (aY ⟨0,0,0,[],[]⟩).toArray G eX rfl a5 ?_));have HY:=ab (aT (cells:=(aY ⟨l.kind,l.param,l.signer,l.la,l.fi⟩).toArray) G);refine az (v:=.agg (aY ⟨l.kind,l.param,l.signer,l.la,l.fi⟩).toArray) ?_ rfl ⟨_,rfl,⟨C.la.1,C.fi.1⟩,C.swap.fine a0,aJ ZS.ext (Nat.le_succ _) _⟩;exact bp rfl _ _ (w.heap.size+1) 65 (aY ⟨l.kind,l.param,l.signer,l.la,l.fi⟩).toArray (0,0) _ rfl HY Tryz.underlying65 rfl eX
 have cV:=ab k1;have kb:(y.kind==1)=false:=by simpa using k1
 clear k1;by_cases k2:y.kind=2
 case pos=>have b6:=ab (show dfG y=true by unfold dfG;rw [ay k2,Bool.or_true]);have kc:(y.kind==2)=true:=(by simpa using k2);clear k2;have f1:=q.frozen 1;have d0:=q.c0;have d1:=q.c1;have J:=q.lt;obtain⟨Y,a7⟩:∃Y,Y=wm.setCell ⟨g,1,none⟩ (.int .i64 2):=⟨_,rfl⟩;obtain⟨l,a8⟩:∃l:DF,l=⟨y.kind,2,y.signer,y.fi,y.la⟩:=⟨_,rfl⟩;have H:=ab (show jC Y g l by rw [a7,a8];exact aG q.row 1 (.int .i64 2));have ZN:=ab (show DeZ w Y x by rw [a7];have:=HG.out;exact⟨aI Q.ext (by omega),Q.a.other (by omega),(aP (by omega)).trans Q.z⟩);have C:=ab (show DfL x.sg.num l by rw [a8];exact⟨U.fi,U.la,U.k,.inl ⟨b6,rfl⟩,U.s⟩);clear a8;go_upto_region 4 with fail;rw [<- a7];clear a7 f1 d0 d1 J kb kc q Q;have d3:=H.c3;have d4:=H.c4;have J:=H.lt;cases F:(!(Op.bytesLess (aD l.fi).toList (aD l.la).toList||(aD l.fi).toList==(aD l.la).toList))with | false=>have a0:=ab (WE F);have O:∀W:World,(binOp .gtr 9 (.string (aD l.fi)) (.string (aD l.la))).run Tryz.prog W=.ok (.bool false) W:=fun W=>(by rw [kH,F]);clear F;go_upto_region 6 with fail;clear O d3 d4 J;have a4:=ab H.row;have G:=ab ZN.z.row;have a5:=ab (rX l);go_wp2_with(first | (refine am rfl 65 _ rfl g rfl 65 (aY l).toArray (0,0) _ a4 Tryz.underlying65 rfl eX ?_) | (refine aF rfl 65 _ _ rfl rfl (w.heap.size+1) (aY l).toArray rfl rfl 65 (aY ⟨0,0,0,[],[]⟩).toArray G eX rfl a5 ?_));have HY:=ab (aT (cells:=(aY l).toArray) G);refine az (v:=.agg (aY l).toArray) ?_ rfl ⟨_,rfl,⟨C.fi.1,C.la.1⟩,C.fine a0,aJ ZN.ext (Nat.le_succ _) _⟩;exact bp rfl _ _ (w.heap.size+1) 65 (aY l).toArray (0,0) _ rfl HY Tryz.underlying65 rfl eX | true=>have a0:=ab (N2 F);have O:∀W:World,(binOp .gtr 9 (.string (aD l.fi)) (.string (aD l.la))).run Tryz.prog W=.ok (.bool true) W:=fun W=>(by rw [kH,F]);clear F;have f3:=H.frozen 3;have f4:=H.frozen 4;obtain⟨K,N⟩:∃K,K=(Y.setCell ⟨g,3,none⟩ (.string (aD l.la))).setCell ⟨g,4,none⟩ (.string (aD l.fi)):=⟨_,rfl⟩;have TS:=ab (show jC K g ⟨l.kind,l.param,l.signer,l.la,l.fi⟩by rw [N];exact aG (aG H.row 3 (.string (aD l.la))) 4 (.string (aD l.fi)));have ZS:=ab (show DeZ w K x by rw [N];have:=HG.out;exact⟨aI (aI ZN.ext (by omega)) (by omega),(ZN.a.other (by omega)).other (by omega),(aP (by omega)).trans ((aP (by omega)).trans ZN.z)⟩);go_upto_region 6 with fail;rw [<- N];clear N O d3 d4 J f3 f4;have a4:=ab TS.row;have G:=ab ZS.z.row;have a5:=ab (rX ⟨l.kind,l.param,l.signer,l.la,l.fi⟩);go_wp2_with(first | (refine am rfl 65 _ rfl g rfl 65 (aY ⟨l.kind,l.param,l.signer,l.la,l.fi⟩).toArray (0,0) _ a4 Tryz.underlying65 rfl eX ?_) | (refine aF rfl 65 _ _ rfl rfl (w.heap.size+1) (aY ⟨l.kind,l.param,l.signer,l.la,l.fi⟩).toArray rfl rfl 65 (aY ⟨0,0,0,[],[]⟩).toArray G eX rfl a5 ?_));have HY:=ab (aT (cells:=(aY ⟨l.kind,l.param,l.signer,l.la,l.fi⟩).toArray) G);refine az (v:=.agg (aY ⟨l.kind,l.param,l.signer,l.la,l.fi⟩).toArray) ?_ rfl ⟨_,rfl,⟨C.la.1,C.fi.1⟩,C.swap.fine a0,aJ ZS.ext (Nat.le_succ _) _⟩;exact bp rfl _ _ (w.heap.size+1) 65 (aY ⟨l.kind,l.param,l.signer,l.la,l.fi⟩).toArray (0,0) _ rfl HY Tryz.underlying65 rfl eX
 have C:=ab (show DfL x.sg.num y from⟨U.fi,U.la,U.k,.inr ⟨by unfold dfG;rw [aw cV.out,aw k2];rfl,U.p⟩,U.s⟩);have kc:(y.kind==2)=false:=by simpa using k2
 clear k2;have d0:=q.c0;have J:=q.lt;go_upto_region 4 with fail;clear d0 J kb kc;have d3:=q.c3;have d4:=q.c4;have J:=q.lt;cases F:(!(Op.bytesLess (aD y.fi).toList (aD y.la).toList||(aD y.fi).toList==(aD y.la).toList))with | false=>have a0:=ab (WE F);have O:∀W:World,(binOp .gtr 9 (.string (aD y.fi)) (.string (aD y.la))).run Tryz.prog W=.ok (.bool false) W:=fun W=>(by rw [kH,F]);clear F;go_upto_region 6 with fail;clear O d3 d4 J;have a4:=ab q.row;have G:=ab Q.z.row;have a5:=ab (rX y);go_wp2_with(first | (refine am rfl 65 _ rfl g rfl 65 (aY y).toArray (0,0) _ a4 Tryz.underlying65 rfl eX ?_) | (refine aF rfl 65 _ _ rfl rfl (w.heap.size+1) (aY y).toArray rfl rfl 65 (aY ⟨0,0,0,[],[]⟩).toArray G eX rfl a5 ?_));have HY:=ab (aT (cells:=(aY y).toArray) G);refine az (v:=.agg (aY y).toArray) ?_ rfl ⟨_,rfl,⟨C.fi.1,C.la.1⟩,C.fine a0,aJ Q.ext (Nat.le_succ _) _⟩;exact bp rfl _ _ (w.heap.size+1) 65 (aY y).toArray (0,0) _ rfl HY Tryz.underlying65 rfl eX | true=>have a0:=ab (N2 F);have O:∀W:World,(binOp .gtr 9 (.string (aD y.fi)) (.string (aD y.la))).run Tryz.prog W=.ok (.bool true) W:=fun W=>(by rw [kH,F]);clear F;have f3:=q.frozen 3;have f4:=q.frozen 4;obtain⟨K,N⟩:∃K,K=(wm.setCell ⟨g,3,none⟩ (.string (aD y.la))).setCell ⟨g,4,none⟩ (.string (aD y.fi)):=⟨_,rfl⟩;have TS:=ab (show jC K g ⟨y.kind,y.param,y.signer,y.la,y.fi⟩by rw [N];exact aG (aG q.row 3 (.string (aD y.la))) 4 (.string (aD y.fi)));have ZS:=ab (show DeZ w K x by rw [N];have:=HG.out;exact⟨aI (aI Q.ext (by omega)) (by omega),(Q.a.other (by omega)).other (by omega),(aP (by omega)).trans ((aP (by omega)).trans Q.z)⟩);go_upto_region 6 with fail;rw [<- N];clear N O d3 d4 J f3 f4;have a4:=ab TS.row;have G:=ab ZS.z.row;have a5:=ab (rX ⟨y.kind,y.param,y.signer,y.la,y.fi⟩);go_wp2_with(first | (refine am rfl 65 _ rfl g rfl 65 (aY ⟨y.kind,y.param,y.signer,y.la,y.fi⟩).toArray (0,0) _ a4 Tryz.underlying65 rfl eX ?_) | (refine aF rfl 65 _ _ rfl rfl (w.heap.size+1) (aY ⟨y.kind,y.param,y.signer,y.la,y.fi⟩).toArray rfl rfl 65 (aY ⟨0,0,0,[],[]⟩).toArray G eX rfl a5 ?_));have HY:=ab (aT (cells:=(aY ⟨y.kind,y.param,y.signer,y.la,y.fi⟩).toArray) G);refine az (v:=.agg (aY ⟨y.kind,y.param,y.signer,y.la,y.fi⟩).toArray) ?_ rfl ⟨_,rfl,⟨C.la.1,C.fi.1⟩,C.swap.fine a0,aJ ZS.ext (Nat.le_succ _) _⟩;exact bp rfl _ _ (w.heap.size+1) 65 (aY ⟨y.kind,y.param,y.signer,y.la,y.fi⟩).toArray (0,0) _ rfl HY Tryz.underlying65 rfl eX
def AuD(w:World)(x:AB):Prop:=∃l:List DF,cG w 0 65 5 x.D (aX l)/\l.length<=2/\gv l/\∀y∈l,ff y=0
theorem AuD.kp {w w':World}{x:AB}(h:AuD w x)(k:Kp w w'):AuD w' x:=by obtain⟨l,q,C⟩:=h;exact⟨l,q.kp OU k,C⟩
theorem aV.rng {w:World}{g:Nat}{x:AB}(h:aV w g x):w.rangeAt g 0 (fq x):=fun j u l=>by rw [et,ae _ _ _ _ _ _ h.row,<- xJ,List.getElem?_toArray];exact l
def AdL(w:World)(xs:List AB):Prop:=∀x∈xs,AuD w x
theorem AdL.kp {w w':World}{xs:List AB}(h:AdL w xs)(k:Kp w w'):AdL w' xs:=fun x l=>(h x l).kp k
theorem RE(S:ST)(m:DV)(day:Int):(accD S m day).1.roots=S.roots/\(accD S m day).1.pool=S.pool/\(accD S m day).1.ms=S.ms/\(accD S m day).1.rs=S.rs:=by
 unfold accD;split;· exact⟨rfl,rfl,rfl,rfl⟩
 · split;(· exact⟨rfl,rfl,rfl,rfl⟩);· split;(· split<;>exact⟨rfl,rfl,rfl,rfl⟩);· split<;>exact⟨rfl,rfl,rfl,rfl⟩
theorem a06(S:ST)(m:DV)(day:Int):(accD S m day).1.ds.length<=S.ds.length+1/\∀x∈(accD S m day).1.ds,x∈S.ds\/x=m:=by
 unfold accD;split;· exact⟨Nat.le_succ _,fun x l=>.inl l⟩
 · split;(· exact⟨Nat.le_succ _,fun x l=>.inl l⟩);· split;(· split;(· exact⟨Nat.le_succ _,fun x l=>.inl l⟩);· exact⟨by show(S.ds.set _ m).length<=_;rw [List.length_set];exact Nat.le_succ _,fun x l=>List.mem_or_eq_of_mem_set l⟩);· split;(· exact⟨Nat.le_succ _,fun x l=>.inl l⟩);· exact⟨by show(S.ds++[m]).length<=_;rw [cz];exact bh _,fun x l=>(List.mem_append.1 l).imp id (fun q=>ah.1 q)⟩
structure WSd (n:Int) (S:ST):Prop where
 b:StB S
 rs:(S.rs.length:Int)<=n
 ds:(S.ds.length:Int)<=n
 sd:∀ x ∈ S.ds,gv x.defs
theorem WSd.accM {n:Int}{S:ST}{m:MA}{day:Int}(h:WSd n S)(q:smL m.roots)(C:m.roots.length<=10000):WSd (n+1) (accM S m day).1:=by obtain⟨_,_,F,l⟩:=RB S m day;have:=h.rs;have:=h.ds;exact⟨VR h.b q C,by rw [F];omega,by rw [l];omega,by rw [l];exact h.sd⟩
theorem WSd.accR {n:Int}{S:ST}{m:RV}{day:Int}(h:WSd n S)(q:m.ser.length<=10000):WSd (n+1) (accR S m day).1:=by obtain⟨_,_,_,l⟩:=RD S m day;have:=h.rs;have:=h.ds;have:=WC S m day;exact⟨VS h.b q,by omega,by rw [l];omega,by rw [l];exact h.sd⟩
theorem WSd.accD {n:Int}{S:ST}{m:DV}{day:Int}(h:WSd n S)(N:n<=100)(J:gv m.defs)(K:m.defs.length<=10000):WSd (n+1) (accD S m day).1:=by obtain⟨F,G,H,l⟩:=RE S m day;obtain⟨O,I⟩:=a06 S m day;have:=h.rs;have:=h.ds;refine⟨⟨by rw [F];exact h.b.r,by rw [G];exact h.b.p,by rw [H];exact h.b.m,by rw [l];exact h.b.s,fun x C=>(I x C).elim (h.b.d x) (fun q=>q▸K),by rw [F];exact h.b.lr,by rw [G];exact h.b.lp,by rw [H];exact h.b.lm,by rw [l];exact h.b.ls,by omega⟩,by rw [l];omega,by omega,fun x C=>(I x C).elim (h.sd x) (fun q=>q▸J)⟩
theorem WSd.mono {n l:Int}{S:ST}(h:WSd n S)(k:n<=l):WSd l S:=⟨h.b,Int.le_trans h.rs k,Int.le_trans h.ds k,h.sd⟩
theorem RfD.sts {w w':World}{s0 s1 s2 s3 s4:dd}{S:ST}{ps:List (DV×Value)}{m:DV}{v:Value}{r:ST×Int}{e:Ending}(h:RfD w s0 s1 s2 s3 s4 S ps m v r e w')(G:StS w s0 s1 s2 s3 s4 S)(H:∀p∈ps,cG w 0 65 5 p.2 (aX p.1.defs))(I:cG w 0 65 5 v (aX m.defs)): ∃t4:dd,e=.returned (.tuple #[cE s0 s1 s2 s3 t4,.int .i64 r.2])/\Ext w w'/\StS w' s0 s1 s2 s3 t4 r.1:=by
 obtain⟨t4,J,C,K⟩:=h;have l:=G.kp (Kp.ext C);refine⟨t4,J,C,?_⟩;rcases K with⟨rfl,F⟩ | ⟨N,F,O,Q⟩;· rw [F];exact l
 · rw [O];exact⟨l.r,l.p,l.m,l.v,⟨N,rfl,F.safe 0,fun p U=>by rcases Q p U with q | rfl;(· exact(H p q).ext C);· exact I.ext C⟩⟩
structure PB (w00 w:World) (D b:Nat):Prop where
 D0:w00.heap.size<=D
 D1:D<w.heap.size
 b1:b<w.heap.size
structure PI (w00 w:World) (D b:Nat) (v:Value) (s0 s1 s2 s3 s4:dd) (day:Int) (xs:List AB) (wr:World):Prop where
 ext:Ext w00 wr
 rel:(dcR D b).rel w wr
 dice:∃ M,cH wr D b M
 po:wr.heap[w.heap.size]?=some (.cells (cO v s0 s1 s2 s3 s4 day) 33 (0,0))
 rz:wr.heap[w.heap.size+1]?=some (.cells jj 33 (0,0))
 own:aK wr (D+1) 50 33 v (kJ xs)
section
variable {w00 w wr wx:World}{D b:Nat}{v v':Value}{s0 s1 s2 s3 s4 t0 t1 t2 t3 t4:dd}{day:Int}{xs ys:List AB}
theorem PI.tr(h:PI w00 w D b v s0 s1 s2 s3 s4 day xs wr)(e:Ext wr wx):PI w00 w D b v s0 s1 s2 s3 s4 day xs wx:=by obtain⟨C,F,⟨M,G⟩,l,q,H⟩:=h;exact⟨C.tr e,(dcR D b).tr F ((dcR D b).ext e),⟨M,G.ext e⟩,(e.block _ (a9 l)).trans l,(e.block _ (a9 q)).trans q,H.ext e⟩
theorem PI.dc(h:PI w00 w D b v s0 s1 s2 s3 s4 day xs wr)(q:PB w00 w D b)(r:(dcR D b).rel wr wx):PI w00 w D b v s0 s1 s2 s3 s4 day xs wx:=by have l:=q.D1;exact⟨Gb.below h.ext r.1 q.D0,(dcR D b).tr h.rel r,r.2 h.dice,(r.1.block _ (a9 h.po) (fun e=>by injection e with e;omega)).trans h.po,(r.1.block _ (a9 h.rz) (fun e=>by injection e with e;omega)).trans h.rz,h.own.grown r.1 (.inr (fun e=>by have:=aZ h.own _ e;omega))⟩
theorem PI.kdc(h:PI w00 w D b v s0 s1 s2 s3 s4 day xs wr)(r:(dcR D b).rel wr wx):Kp wr wx:=by obtain⟨M,A,n,c,k,q,l,_⟩:=h.dice;exact Kp.gb l OV r.1
theorem PI.next(h:PI w00 w D b v s0 s1 s2 s3 s4 day xs wr)(q:PB w00 w D b)(n:Int)(C:1<=n)(F:n<=4611686018427387904):Calls Tryz.prog 28 #[.pointer (some ⟨D,0,none⟩),.int .i64 n] wr fun e w'=>∃z:Int,0<=z/\z<n/\e=.returned (.int .i64 z)/\PI w00 w D b v s0 s1 s2 s3 s4 day xs w'/\Kp wr w'/\∀k,k<wr.heap.size->k≠D->w'.heap[k]?=wr.heap[k]? :=(lY n h.dice C F).mono fun e w'⟨u,G,l,z,H,I,J⟩=>⟨z,I,J,by rw [G,H],h.dc q l,h.kdc l,fun k K N=>l.1.block k K (fun e=>N (by injection e))⟩
theorem PI.gb(h:PI w00 w D b v s0 s1 s2 s3 s4 day xs wr)(q:PB w00 w D b){g:Nat}(hg:w.heap.size+1<g)(e:Gb g wr wx)(I:aQ v≠some g):PI w00 w D b v s0 s1 s2 s3 s4 day xs wx:=by have N:=q.D0;have O:=q.D1;have Q:=q.b1;obtain⟨M,F⟩:=h.dice;have C:∀k,k<wr.heap.size->k<=w.heap.size+1->wx.heap[k]?=wr.heap[k]?:=fun k J G=>e.block k J (fun z=>by injection z with z;omega);have H:∃M,cH wx D b M:=⟨M,F.keep (C D F.lt (by omega)) (C b F.ltb (by omega))⟩;have l:=h.rel.1;exact⟨Gb.below h.ext e (by omega),⟨⟨e.os.trans l.os,e.tape.trans l.tape,e.output.trans l.output,dm l.size e.size,fun k G K=>(C k (ew G l.size) (by omega)).trans (l.block k G K)⟩,fun _=>H⟩,H,(C _ (a9 h.po) (by omega)).trans h.po,(C _ (a9 h.rz) (by omega)).trans h.rz,h.own.grown e (.inr I)⟩
theorem PI.box(h:PI w00 w D b v s0 s1 s2 s3 s4 day xs wr)(q:PB w00 w D b)(e:Gb w.heap.size wr wx)(hb:wx.heap[w.heap.size]?=some (.cells (cO v' t0 t1 t2 t3 t4 day) 33 (0,0)))(o:aK wx (D+1) 50 33 v' (kJ ys)):PI w00 w D b v' t0 t1 t2 t3 t4 day ys wx:=by have K:=q.D0;have N:=q.D1;have O:=q.b1;obtain⟨M,F⟩:=h.dice;have C:∀k,k<wr.heap.size->k≠w.heap.size->wx.heap[k]?=wr.heap[k]?:=fun k I G=>e.block k I (fun z=>by injection z with z;omega);have H:∃M,cH wx D b M:=⟨M,F.keep (C D F.lt (by omega)) (C b F.ltb (by omega))⟩;have l:=h.rel.1;exact⟨Gb.below h.ext e (by omega),⟨⟨e.os.trans l.os,e.tape.trans l.tape,e.output.trans l.output,dm l.size e.size,fun k G J=>(C k (ew G l.size) (by omega)).trans (l.block k G J)⟩,fun _=>H⟩,H,hb,(C _ (a9 h.rz) (by omega)).trans h.rz,o⟩
theorem WG:¬iR 31:=by unfold iR;decide
theorem PI.form(h:PI w00 w D b v s0 s1 s2 s3 s4 day xs wr):∃A c,v=.slice A xs.length c:=by obtain⟨A,n,c,e,l,-⟩:=h.own;rw [nJ]at l;obtain rfl:n=xs.length:=je (by decide) l;exact⟨A,c,e⟩
theorem PI.range {A:Option Addr}{n c i:Nat}{x:AB}(h:PI w00 w D b (.slice A n c) s0 s1 s2 s3 s4 day xs wr)(hi:xs[i]?=some x):∃g,A=some ⟨g,0,none⟩/\D+1<=g/\g<wr.heap.size/\n=xs.length/\n<=c/\c<=maxLen/\wr.rangeAt g (i*33) (fq x):=aK.rangeFlat uD (by decide) h.own hi
theorem PI.c(h:PI w00 w D b v s0 s1 s2 s3 s4 day xs wr):wr.rangeAt w.heap.size 1 [cd s0,cd s1,cd s2,cd s3,cd s4]/\wr.cell? ⟨w.heap.size,0,none⟩=some v/\wr.cell? ⟨w.heap.size,6,none⟩=some (.int .i64 day)/\w.heap.size<wr.heap.size/\∀i,wr.frozen? ⟨w.heap.size,i,none⟩=false:=by have l:=h.po;refine⟨fun j u q=>?_,by rw [ae _ _ 0 _ _ _ l];rfl,by rw [ae _ _ 6 _ _ _ l];rfl,a9 l,fun i=>by simp [World.frozen?,l]⟩;rw [ae _ _ _ _ _ _ l,show cO v s0 s1 s2 s3 s4 day=([v]++[cd s0,cd s1,cd s2,cd s3,cd s4]++[Value.int .i64 day]).toArray from rfl,List.getElem?_toArray,fc,bf (by show 1<=1+j;omega),show 1+j - [v].length=j by show 1+j - 1=j;omega,bi (aq.1 q).1];exact q
theorem PI.th(h:PI w00 w D b v s0 s1 s2 s3 s4 day xs wr):wr.there w.heap.size 1 5:=fun j q=>by refine⟨?_,h.c.2.2.2.2 _⟩;have l:=h.c.1;match j,q with | 0,_=>rw [l 0 _ rfl];rfl | 1,_=>rw [l 1 _ rfl];rfl | 2,_=>rw [l 2 _ rfl];rfl | 3,_=>rw [l 3 _ rfl];rfl | 4,_=>rw [l 4 _ rfl];rfl
theorem PI.gbO(h:PI w00 w D b v s0 s1 s2 s3 s4 day xs wr)(q:PB w00 w D b){g:Nat}(hg:w.heap.size+1<g)(e:Gb g wr wx)(o:aK wx (D+1) 50 33 v (kJ ys)):PI w00 w D b v s0 s1 s2 s3 s4 day ys wx:=by have K:=q.D0;have N:=q.D1;have O:=q.b1;obtain⟨M,F⟩:=h.dice;have C:∀k,k<wr.heap.size->k<=w.heap.size+1->wx.heap[k]?=wr.heap[k]?:=fun k I G=>e.block k I (fun z=>by injection z with z;omega);have H:∃M,cH wx D b M:=⟨M,F.keep (C D F.lt (by omega)) (C b F.ltb (by omega))⟩;have l:=h.rel.1;exact⟨Gb.below h.ext e (by omega),⟨⟨e.os.trans l.os,e.tape.trans l.tape,e.output.trans l.output,dm l.size e.size,fun k G J=>(C k (ew G l.size) (by omega)).trans (l.block k G J)⟩,fun _=>H⟩,H,(C _ (a9 h.po) (by omega)).trans h.po,(C _ (a9 h.rz) (by omega)).trans h.rz,o⟩
theorem PI.store(h:PI w00 w D b v s0 s1 s2 s3 s4 day xs wr)(q:PB w00 w D b)(t0 t1 t2 t3 t4:dd):PI w00 w D b v t0 t1 t2 t3 t4 day xs (wr.setCells w.heap.size 1 [cd t0,cd t1,cd t2,cd t3,cd t4])/\Kp wr (wr.setCells w.heap.size 1 [cd t0,cd t1,cd t2,cd t3,cd t4]):=by have hg:=Gb.setCells w.heap.size [cd t0,cd t1,cd t2,cd t3,cd t4] 1 wr;have l:=kF [cd t0,cd t1,cd t2,cd t3,cd t4] [v] [.int .i64 day] wr w.heap.size [cd s0,cd s1,cd s2,cd s3,cd s4] 33 (0,0) h.po rfl;rw [<- fE]at l;exact⟨h.box q hg l (h.own.grown hg (.inr (h.own.row_blk h.po (by decide)))),Kp.gb h.po uE hg⟩
theorem PI.out(h:PI w00 w D b v s0 s1 s2 s3 s4 day xs wr)(q:PB w00 w D b)(cs:Array Value):(dcR D b).rel w (wr.setRow (w.heap.size+1) cs)/\Kp wr (wr.setRow (w.heap.size+1) cs)/\aK (wr.setRow (w.heap.size+1) cs) (D+1) 50 33 v (kJ xs):=by have I:=q.D1;have J:=q.b1;have hg:=Gb.setRow (w.heap.size+1) wr cs;have l:=h.rel.1;obtain⟨M,G⟩:=h.dice;have C:∀k,k≠w.heap.size+1->(wr.setRow (w.heap.size+1) cs).heap[k]?=wr.heap[k]?:=fun k F=>bU F;exact⟨⟨⟨hg.os.trans l.os,hg.tape.trans l.tape,hg.output.trans l.output,dm l.size hg.size,fun k F H=>(C k (by omega)).trans (l.block k F H)⟩,fun _=>⟨M,G.keep (C D (by omega)) (C b (by omega))⟩⟩,Kp.gb h.rz uE hg,h.own.grown hg (.inr (h.own.row_blk h.rz (by decide)))⟩
theorem PI.ds {hD:D<wr.heap.size}{hb:b<wr.heap.size}(h:PI w00 w D b v s0 s1 s2 s3 s4 day xs wr)(q:PB w00 w D b)(r:(gj D b wr.heap.size hD hb).rel wr wx)(J:∀k,aQ v=some k->k<wr.heap.size):PI w00 w D b v s0 s1 s2 s3 s4 day xs wx/\Kp wr wx:=by
 have N:=q.D0;have C:=q.D1;obtain⟨r1,r2⟩:=r;have G:∀k,k<wr.heap.size->k≠D->wx.heap[k]?=wr.heap[k]?:=fun k l O=>(r1.block k l).resolve_right fun z=>by rcases z.1 with z | z<;>omega
 have F:=h.rel.1;have H:=r2 h.dice;refine⟨⟨h.ext.trans (r1.below (B:=w00.heap.size) (fun k z=>by have:=F.size;rcases z with z | z<;>omega) h.ext.size),⟨⟨r1.os.trans F.os,r1.tape.trans F.tape,r1.output.trans F.output,dm F.size r1.size,fun k l I=>(G k (ew l F.size) (fun z=>I (by rw [z]))).trans (F.block k l I)⟩,fun _=>H⟩,H,(G _ (a9 h.po) (by omega)).trans h.po,(G _ (a9 h.rz) (by omega)).trans h.rz,h.own.same fun g hg=>G g (J g hg) (fun z=>by have:=aZ h.own _ hg;omega)⟩,fun e k Q fr K l=>?_⟩;refine(G k (a9 l) (fun z=>?_)).trans l;subst z;obtain⟨M,A,n,c,i,f,C,_⟩:=h.dice;rw [l]at C;injection C with C;injection C with _ C _;exact OV (C▸K)
end
structure a1Y (w00 w:World) (D b:Nat) (v:Value) (s0 s1 s2 s3 s4:dd) (day:Int) (xs:List AB) (n:Int) (ga gs:Nat) (st:List UInt8) (wr:World) (y:AB) (t0 t1 t2 t3 t4:dd) (S:ST):Prop where
 pi:PI w00 w D b v s0 s1 s2 s3 s4 day xs wr
 a:aV wr ga y
 s:wr.heap[gs]?=some (.cells (aN t0 t1 t2 t3 t4) 31 (0,0))
 au:AuL n wr xs
 av:AvL n wr xs
 ad:AdL wr xs
 yu:∃ a ds,ij (n+1) wr y a ds
 yv:AuV (n+1) wr y
 yd:AuD wr y
 ys:y.st=st
 ss:StS wr t0 t1 t2 t3 t4 S
 wb:WSd (n+1) S
def a1B(w:World)(D b:Nat)(day n:Int)(p q:List UInt8)(e:Ending)(w':World):Prop:=∃(v:Value)(t0 t1 t2 t3 t4:dd)(l C:AB)(S:ST),e=.returned (.agg (cO v t0 t1 t2 t3 t4 day))/\(dcR D b).rel w w'/\aK w' (D+1) 50 33 v (kJ [l,C])/\AuL (n+1) w' [l,C]/\AvL (n+1) w' [l,C]/\AdL w' [l,C]/\StS w' t0 t1 t2 t3 t4 S/\WSd (n+1) S/\(l.st=p/\C.st=q)
theorem P3(m:DV)(e s:Int):dz (tU m e s)=dz m:=rfl
theorem RF(m:DV)(e s:Int):jB (tU m e s)=jB m:=rfl
theorem P4 {k:Int}{m:DV}(l:dr 1 1073741789 k=true)(q:dz m=0):iO k m=tU m (qO k (jB m)) (uT k (jB m)):=by unfold iO sE sS;have C:sK k=0:=ax l;rw [ax ⟨q,C⟩,ax l,ax l]
theorem a07 {k:Int}{m:DV}(l:dr 1 1073741789 k=true)(q:dz m=0):tV k m=0:=by have C:sK k=0:=ax l;unfold tV;rw [ax q,C]
theorem N3 {k:Int}{m:DV}(l:dr 1 1073741789 k=true)(q:dz m=0):hM (pw 4 k) (iu (iO k m)) (iO k m).e (iO k m).s=true:=by obtain⟨C,F⟩:=eR l;rw [P4 l q];unfold iu;rw [P3,ax q,RF];exact sM C F _
def kO(sg:Int):DF:=⟨1,2,sg,[57,57,57],[65,66,49,48]⟩
def iv(k:Int)(sg:Int)(c:NC):DV:=iO k ⟨m7,1,40010,[kO sg],c,0,0⟩
theorem a08 {sg:Int}(h:eF sg):ff (kO sg)=0:=by
 refine kG (by show¬((1:Int)<1\/(5:Int)<1);omega) ?_ ?_;· unfold gP;rw [show dfG (kO sg)=true from rfl,show(kO sg).signer=sg from rfl,ay h];rfl
 · unfold iN;rw [show(kO sg).fi=[57,57,57]from rfl,show(kO sg).la=[65,66,49,48]from rfl];decide
theorem K1 {m:DV}{st:List UInt8}(h:m.st=st)(signer:Int)(number:List UInt8):nX [m] st signer number=if gM number then m.defs.filter fun x=>nC x signer number else []:=by
 have:jz [m] st=some m:=by unfold jz;rw [List.find?_cons,ay h]
 unfold nX;rw [this]
theorem N4 {m:DV}{st:List UInt8}(h:m.st≠st)(signer:Int)(number:List UInt8):nX [m] st signer number=[]:=by
 have:jz [m] st=none:=by unfold jz;rw [List.find?_cons,aw h];rfl
 unfold nX;rw [this]
theorem CB {a:AU}(h:AuI a [40000])(N:a.st=m7):∃c:NC,a.roots=[c]/\df c/\df a.ls/\eF a.sg.num/\tV a.lsec ⟨m7,1,40010,[kO a.sg.num],a.ls,0,0⟩=0/\accD ⟨[c],[],[],[],[]⟩ (iv a.lsec a.sg.num a.ls) 40010=(⟨[c],[],[],[],[iv a.lsec a.sg.num a.ls]⟩,0)/\(nX [iv a.lsec a.sg.num a.ls] m7 a.sg.num [49,48,48,48]).length=1/\(nX [iv a.lsec a.sg.num a.ls] m7 a.sg.num [57,57,56]).length=0/\(nX [iv a.lsec a.sg.num a.ls] SW a.sg.num [49,48,48,48]).length=0/\(iv a.lsec a.sg.num a.ls).defs=[kO a.sg.num]/\(iv a.lsec a.sg.num a.ls).sg=a.ls/\(iv a.lsec a.sg.num a.ls).st=m7:=by
 have U:=h.rlen;obtain⟨c,O⟩:∃c,a.roots=[c]:=by match hr:a.roots,U with | [x],_=>exact⟨x,rfl⟩
 obtain⟨k1,W,n1,H,I,_,_,R⟩:=h.rt 0 c (by rw [O];rfl);obtain⟨k2,d2,n2,v1,v2,X,b5,_,S⟩:=h.sg (by simp);obtain⟨Y,d3,n3,u1,u2,_,_,J,L⟩:=h.ls (by simp);obtain rfl:(40000:Int)=W:=bc I;obtain rfl:(40000:Int)=d3:=bc u2;obtain rfl:k1=Y:=bc (H.symm.trans u1);have hN:=S.num;have Q:eF a.sg.num:=by rw [hN];exact⟨X,by omega⟩
 have a0:du a.ls 40010=0:=L.on (by decide) (by decide);have a1:a.ls.kind≠1:=by rw [L.kind];decide
 have a2:a.ls.st=m7:=L.st.trans N;have b6:c.st=m7:=R.st.trans N;have a3:fD 40010 c a.ls=true:=XU R L (by decide) (.inl rfl) (by decide) rfl (by decide) (by decide) (by decide) (by decide);have a4:qX a.ls.st 40010 c:=by rw [L.st];exact TD R (by decide) (by decide)
 have a5:fv [c] [] a.ls 40010=0:=R2 a4 a3 a1 a0;have a6:ii a.ls m7=0:=by unfold ii;rw [ao (ak L.ck),ao (ak L.kind),ao (ak a2)]
 have a7:vF [kO a.sg.num]=0:=tO fun j x hj hx=>by match j,hj with | 0,_=>rw [<- bc hx];exact a08 Q
 have C:dz ⟨m7,1,40010,[kO a.sg.num],a.ls,0,0⟩=0:=by unfold dz;rw [ao (ak yS),ao (ak (⟨by show(1:Int)<=1;omega,by show(1:Int)<=1073741824;omega⟩)),ao (ak ⟨by show(0:Int)<=40010;omega,by show(40010:Int)<=73048;omega⟩),ao (by show¬(32<1);omega),ao (ak a7)];exact a6
 have l:iv a.lsec a.sg.num a.ls=tU ⟨m7,1,40010,[kO a.sg.num],a.ls,0,0⟩ (qO a.lsec (jB ⟨m7,1,40010,[kO a.sg.num],a.ls,0,0⟩)) (uT a.lsec (jB ⟨m7,1,40010,[kO a.sg.num],a.ls,0,0⟩)):=P4 J C;have hv:hM (pw 4 a.lsec) (iu (iv a.lsec a.sg.num a.ls)) (iv a.lsec a.sg.num a.ls).e (iv a.lsec a.sg.num a.ls).s=true:=N3 J C;have a8:dz (iv a.lsec a.sg.num a.ls)=0:=by rw [l,P3];exact C
 have F:(iv a.lsec a.sg.num a.ls).st=m7:=by rw [l];rfl
 have f2:(iv a.lsec a.sg.num a.ls).day=40010:=by rw [l];rfl
 have K:(iv a.lsec a.sg.num a.ls).defs=[kO a.sg.num]:=by rw [l];rfl
 have G:(iv a.lsec a.sg.num a.ls).sg=a.ls:=by rw [l];rfl
 refine⟨c,O,CU R,CU L,Q,a07 J C,?_⟩;generalize iv a.lsec a.sg.num a.ls=m at*;have b0:wY m.sg m.day 40010 (iu m) m.e m.s=0:=by unfold wY;rw [G,f2,ao (by rw [L.fr];omega),ao (by rw [L.un];omega),L.key];exact ax hv
 have b3:dZ ⟨[c],[],[],[],[]⟩=[c]:=by show jU [] c=[c];unfold jU;rw [ao (by simp)];rfl
 have b4:F9 ⟨[c],[],[],[],[]⟩ m 40010=0:=by unfold F9 AA;rw [b3,G,ao (ak a5),<- G];exact b0
 have H:nC (kO a.sg.num) a.sg.num [49,48,48,48]=true:=by unfold nC;rw [show(kO a.sg.num).signer=a.sg.num from rfl,ay rfl,show(kO a.sg.num).fi=[57,57,57]from rfl,show(kO a.sg.num).la=[65,66,49,48]from rfl];decide
 have I:nC (kO a.sg.num) a.sg.num [57,57,56]=false:=by unfold nC;rw [show(kO a.sg.num).fi=[57,57,57]from rfl,show(kO a.sg.num).la=[65,66,49,48]from rfl,show(!nB [57,57,56] [57,57,57]&& !nB [65,66,49,48] [57,57,56])=false from by decide,Bool.and_false]
 refine⟨?_,?_,?_,?_,K,G,F⟩;· unfold accD;rw [ao (fun q=>q a8),ao (fun q=>q b4)];rfl
 · rw [K1 F,K,ax (by decide)];simp [H]
 · rw [K1 F,K,ax (by decide)];simp [I]
 · rw [N4 (by rw [F];decide)];rfl
end Go.Proofs.YtmmoenkmicimcaaGreatDoor
