import Derived.Handy
import Derived.Lib.Hide
import Derived.Deep.AppendLies
import Derived.Deep.Draws
namespace Go.Proofs.YtmmoenkmicimcaaGreatDoor
abbrev im:List Value:=.string ⟨#[]⟩::.slice none 0 0::.slice none 0 0::.slice none 0 0::.string ⟨#[]⟩::.int .i64 0::.int .i64 0::.int .i64 0::.int .i64 0::.int .i64 0::.int .i64 0::.int .i64 0::.int .i64 0::.int .i64 0::.int .i64 0::.string ⟨#[]⟩::.int .i64 0::.int .i64 0::.int .i64 0::.int .i64 0::.int .i64 0::.int .i64 0::.int .i64 0::.int .i64 0::.int .i64 0::.int .i64 0::.int .i64 0::.int .i64 0::.int .i64 0::.int .i64 0::.slice none 0 0::.slice none 0 0::.slice none 0 0::[]
abbrev ft:Array Value:=#[.string ⟨#[]⟩,.int .i64 0,.int .i64 0,.slice none 0 0,.string ⟨#[]⟩,.int .i64 0,.int .i64 0,.int .i64 0,.int .i64 0,.int .i64 0,.int .i64 0,.int .i64 0,.int .i64 0,.int .i64 0,.int .i64 0,.int .i64 0,.int .i64 0]
abbrev fe:Array Value:=#[.slice none 0 0,.slice none 0 0,.slice none 0 0,.slice none 0 0,.slice none 0 0]
abbrev jj:Array Value:=#[.slice none 0 0,.slice none 0 0,.slice none 0 0,.slice none 0 0,.slice none 0 0,.slice none 0 0,.int .i64 0]
theorem ab {p:Prop}(h:p):Go.RowKit.Hid p:=h
theorem bh: ∀(n:Nat),n≤n:=@Nat.le_refl
theorem bz.{u}: ∀ {α:Type u}(l:List α)(i:Nat)(a:α),Array.setIfInBounds (List.toArray l) i a=List.toArray (List.set l i a):=@List.setIfInBounds_toArray
theorem bu.{u}: ∀ {α:Type u}{x:α}{xs:List α}{a:α},List.set (x::xs) 0 a=a::xs:=@List.set_cons_zero
theorem bt.{u}: ∀ {α:Type u}{x:α}{xs:List α}{i:Nat}{a:α},List.set (x::xs) (i+1) a=x::List.set xs i a:=@List.set_cons_succ
theorem ch: ∀(n m k:Nat),n+m+k=n+(m+k):=@Nat.add_assoc
theorem cz.{u}: ∀ {α:Type u}{p l:List α},List.length (p++l)=List.length p+List.length l:=@List.length_append
theorem de: ∀(n:Nat),0≤n:=@Nat.zero_le
theorem dg.{u}: ∀ {α:Type u}{l:List α}{i:Nat}(h:i<List.length l),l[i]? =some l[i]:=@List.getElem?_eq_getElem
theorem dq.{u}: ∀ {α:Type u}{a:α}{p:List α},List.length (a::p)=List.length p+1:=@List.length_cons
theorem dm: ∀ {n m k:Nat},n≤m→m≤k→n≤k:=@Nat.le_trans
theorem dn.{u}: ∀ {α:Type u},List.length ([]:List α)=0:=@List.length_nil
theorem dw.{u}: ∀ {α:Type u}{l:List α},List.take 0 l= []:=@List.take_zero
theorem eq.{u}: ∀ {α:Type u}{a:α}{p:List α}{i:Nat},List.take (i+1) (a::p)=a::List.take i p:=@List.take_succ_cons
theorem ej.{u}: ∀ {α:Type u}{a:α}{l:List α}{i:Nat},List.drop (i+1) (a::l)=List.drop i l:=@List.drop_succ_cons
theorem eh.{u}: ∀ {α:Type u}{l:List α},List.drop 0 l=l:=@List.drop_zero
theorem et: ∀(n:Nat),0+n=n:=@Nat.zero_add
theorem eu.{u}: ∀ {α:Type u}{l:List α}{i:Nat}{a:α},l[i]? =some a→a∈l:=@List.mem_of_getElem?
theorem ew: ∀ {n m k:Nat},n<m→m≤k→n<k:=@Nat.lt_of_lt_of_le
theorem fc.{u}: ∀ {α:Type u}(p l cs:List α),p++l++cs=p++(l++cs):=@List.append_assoc
theorem fm.{u}: ∀ {α:Type u}{a:α}{l:List α},a∈a::l:=@List.mem_cons_self
theorem gc.{u}: ∀ {α:Type u}{i:Nat}{l:List α},List.length (List.take i l)=min i (List.length l):=@List.length_take
theorem gy.{u}: ∀ {α:Type u}(p:List α), []++p=p:=@List.nil_append
theorem ig.{u}: ∀ {α:Type u}{l:List α},List.length l=0→l= []:=@List.eq_nil_of_length_eq_zero
theorem io.{u}: ∀ {α:Type u}(y:α){a:α}{l:List α},a∈l→a∈y::l:=@List.mem_cons_of_mem
theorem je: ∀ {n m k:Nat},0<m→n*m=k*m→n=k:=@Nat.eq_of_mul_eq_mul_right
open Go.RowKit
abbrev Ext(w w':World):Prop:=Below w.heap.size w w'
theorem Ext.tr {a b c:World}(h:Ext a b)(k:Ext b c):Ext a c:=h.trans (k.mono h.size)
def Rd(w:World)(v:Value)(xs:List Value):Prop:= ∃A n c,v=.slice A n c/\n=xs.length/\n<=c/\c<=maxLen/\(0<n->∃b o,A=some ⟨b,o,none⟩/\∀j u,xs[j]?=some u->w.cell? ⟨b,o+j,none⟩=some u)
def Own(w:World)(B:Nat)(e:TypeId)(v:Value)(xs:List Value):Prop:= ∃A n c,v=.slice A n c/\n=xs.length/\((n=0/\c=0)\/ ∃g l,A=some ⟨g,0,none⟩/\B<=g/\w.heap[g]?=some (.cells l e (0,0))/\n<=c/\c<=maxLen/\l.size=c/\l.toList.take n=xs)
def WP:Value->Nat | .slice _ n _=>n | _=>0
def aQ:Value->Option Nat
 | .slice (some a) _ (_+1)=>some a.block
 | _=>none
theorem Rd.nil_(w:World):Rd w (.slice none 0 0) []:=⟨none,0,0,rfl,rfl,bh _,by unfold maxLen;omega,fun h=>absurd h (by omega)⟩
theorem Own.nil_(w:World)(B:Nat)(e:TypeId):Own w B e (.slice none 0 0) []:=⟨none,0,0,rfl,rfl,.inl ⟨rfl,rfl⟩⟩
theorem Own.empty(w:World)(B:Nat)(e:TypeId)(A:Option Addr):Own w B e (.slice A 0 0) []:=⟨A,0,0,rfl,rfl,.inl ⟨rfl,rfl⟩⟩
theorem a9 {w:World}{g:Nat}{o:Obj}(h:w.heap[g]?=some o):g<w.heap.size:=(Array.getElem?_eq_some_iff.1 h).1
theorem Own.rd {w:World}{B:Nat}{e:TypeId}{v:Value}{xs:List Value}(h:Own w B e v xs):Rd w v xs:=by
 obtain⟨A,n,c,rfl,q,h | ⟨g,C,rfl,I,hg,F,G,J,H⟩⟩:=h;· obtain⟨rfl,rfl⟩:=h;exact⟨A,0,0,rfl,q,bh _,by unfold maxLen;omega,fun h=>absurd h (by omega)⟩
 · refine⟨_,n,c,rfl,q,F,G,fun _=>⟨g,0,rfl,fun j u l=>?_⟩⟩;rw [et,cell_of_row w g j C e (0,0) hg];rw [<- H,List.getElem?_take]at l;split at l;(· simpa using l);· cases l
theorem Rd.keep {w w':World}{v:Value}{xs:List Value}(h:Rd w v xs)(C:∀p:Addr,p.block<w.heap.size->w'.cell? p=w.cell? p):Rd w' v xs:=by obtain⟨A,n,c,rfl,F,G,H,I⟩:=h;refine⟨A,n,c,rfl,F,G,H,fun J=>?_⟩;obtain⟨b,o,rfl,l⟩:=I J;exact⟨b,o,rfl,fun j u q=>(C _ (World.block_lt_of_cell? w _ (l j u q))).trans (l j u q)⟩
theorem Rd.ext {w w':World}{v:Value}{xs:List Value}(h:Rd w v xs)(l:Ext w w'):Rd w' v xs:=h.keep fun _ q=>l.cell q
theorem Rd.below {w0 w:World}{v:Value}{xs:List Value}(h:Rd w0 v xs)(l:Below w0.heap.size w0 w):Rd w v xs:=h.keep fun _ q=>l.cell q
theorem Own.mono {w:World}{B B':Nat}{e:TypeId}{v:Value}{xs:List Value}(h:Own w B e v xs)(q:B'<=B):Own w B' e v xs:=by
 obtain⟨A,n,c,rfl,l,h | ⟨g,C,rfl,F,G⟩⟩:=h;· exact⟨A,n,c,rfl,l,.inl h⟩
 · exact⟨_,n,c,rfl,l,.inr ⟨g,C,rfl,dm q F,G⟩⟩
theorem Own.ext {w w':World}{B:Nat}{e:TypeId}{v:Value}{xs:List Value}(h:Own w B e v xs)(q:Ext w w'):Own w' B e v xs:=by
 obtain⟨A,n,c,rfl,l,h | ⟨g,C,rfl,F,hg,G⟩⟩:=h;· exact⟨A,n,c,rfl,l,.inl h⟩
 · exact⟨_,n,c,rfl,l,.inr ⟨g,C,rfl,F,(q.block g (a9 hg)).trans hg,G⟩⟩
theorem Own.grown {w w':World}{B:Nat}{e:TypeId}{v:Value}{xs:List Value}{row:Option Nat}(h:Own w B e v xs)(hg:w.grownBy w' row)(F:aQ v=none\/aQ v≠row):Own w' B e v xs:=by
 obtain⟨A,n,c,rfl,l,h | ⟨g,G,rfl,H,q,I,J⟩⟩:=h;· exact⟨A,n,c,rfl,l,.inl h⟩
 · by_cases hc0:c=0;(· subst hc0;exact⟨_,n,0,rfl,l,.inl ⟨by omega,rfl⟩⟩);· refine⟨_,n,c,rfl,l,.inr ⟨g,G,rfl,H,(hg.block g (a9 q) ?_).trans q,I,J⟩⟩;obtain⟨C,rfl⟩:∃C,c=C+1:=⟨c - 1,by omega⟩;rcases F with h | h;(· simp [aQ]at h);· simpa [aQ]using h
structure P5 (P:Program) (t e:TypeId) (bytes:Nat):Prop where
 ex:∃ i z,P.underlying t=some (.slice e)/\P.info? e=some i/\i.zero=some z/\i.size=1/\i.bytes=bytes/\z.cells.size=1
theorem oI {P:Program}{w:World}{t ty e:TypeId}{i:TypeInfo}(q:P.underlying t=some (.slice e))(hi:P.info? e=some i)(A l:Option Addr)(n c c2:Nat)(C:n<=c):(Builtin.append_ #[t,t] ty #[.slice A n c,.slice l 0 c2]).run P w=.ok (.slice A n c) w:=by cases A<;>cases l<;>simp [Builtin.append_,run_underlying q,sizeOf,typeInfo,hi,Builtin.lenOf,Builtin.firstCells,loadCells,loadCellsFrom,C,storeCells]
theorem fJ {w:World}{l:Nat}{e:TypeId}{v:Value}{n:Nat}{xs:List Value}(h:w.ownsRow l e 1 v n xs):Own w l e v xs:=by
 have q:=h.1;rcases h.2 with⟨rfl,rfl⟩ | ⟨g,C,F,rfl,G,hg,H,I,K,J⟩;· have:xs=[]:=ig (by simpa using q);subst this;exact Own.nil_ _ _ _
 · exact⟨_,n,C,rfl,by omega,.inr ⟨g,F,rfl,G,hg,H,I,by omega,by simpa using J⟩⟩
theorem WQ {P:Program}{w:World}{t ty e:TypeId}{bytes B:Nat}(he:P5 P t e bytes){v a6:Value}{xs l:List Value}(a8:Own w B e v xs)(hr:Rd w a6 l)(h1:∀u∈l,u.oneCell'=true)(H:(xs.length+l.length)*bytes<=140737488355328)(a1:xs.length+l.length<=maxLen)(hB:B<=w.heap.size): ∃A c w',(Builtin.append_ #[t,t] ty #[v,a6]).run P w=.ok (.slice A (xs.length+l.length) c) w'/\Own w' B e (.slice A (xs.length+l.length) c) (xs++l)/\w.grownBy w' (aQ v):=by
 obtain⟨i,z,J,K,U,W,X,Y⟩:=he.ex;obtain⟨A,n,c,rfl,I,a2⟩:=a8;obtain⟨A2,m,c2,rfl,C,b9,bB,b0⟩:=hr;by_cases hm0:m=0;· subst hm0;have b3:l=[]:=ig (by omega);subst b3;have a3:n<=c:=(by rcases a2 with h | ⟨g,a7,_,_,_,h,_⟩;(· omega);· exact h);refine⟨A,c,w,?_,?_,⟨rfl,rfl,rfl,bh _,fun _ _ _=>rfl⟩⟩;(· rw [oI J K A A2 n c c2 a3];simp [I]);· simp only [dn,Nat.add_zero,List.append_nil,<- I];exact⟨A,n,c,rfl,I,a2⟩
 · obtain⟨b2,o2,rfl,b4⟩:=b0 (by omega);have a0:∀j u,l[j]?=some u->w.cell? ((⟨b2,o2,none⟩:Addr).add j)=some u:=(by intro j u hu;rw [Addr.add_lit];exact b4 j u hu);rcases a2 with⟨rfl,rfl⟩ | ⟨g,a7,rfl,b5,hg,a3,b6,bS,b7⟩;(· have hx:xs=[]:=ig (by omega);subst hx;have key:∃F w',(Builtin.append_ #[t,t] ty #[.slice A 0 0,.slice (some ⟨b2,o2,none⟩) m c2]).run P w=.ok F w'/\w'.ownsRow w.heap.size e 1 F m l/\w.grownBy w' none:=(by cases A with | none=>obtain⟨F,w',a4,N,a5,_⟩:=run_append_own (P:=P) w w.heap.size t ty e i z 1 bytes J K U W X Y (by decide) (.slice none 0 0) 0 [] (World.ownsRow_nil _ _ _ _) ⟨b2,o2,none⟩ m c2 l (by omega) a0 h1 (by simp only [dn]at a1;omega) (by simp only [dn,et,<- C]at H⊢;exact H) (bh _);simp only [et,gy]at N;exact⟨F,w',a4,N,a5⟩ | some ad=>obtain⟨F,w',a4,N,a5⟩:=run_append_arg_grows (P:=P) w t ty e i z 1 bytes J K U W X Y (by decide) ad 0 0 [] rfl (by simp) ⟨b2,o2,none⟩ m c2 l (by omega) a0 (by omega) (by simp only [dn]at a1;omega) (by simp only [dn,et,<- C]at H⊢;exact H);simp only [et,gy]at N;exact⟨F,w',a4,N,a5⟩);obtain⟨F,w',k1,G,q⟩:=key;obtain⟨O,Q,rfl,_,_⟩:=G.form (by omega);have ho:=(fJ G).mono hB;refine⟨some ⟨O,0,none⟩,Q,w',?_,?_,⟨q.os,q.tape,q.output,q.size,fun k hk _=>q.block k hk (by simp)⟩⟩;(· rw [k1];simp [C]);· simp only [dn,et,gy,<- C];exact ho);· have b8:w.ownsRow B e 1 (.slice (some ⟨g,0,none⟩) n c) n xs:=⟨by omega,.inr ⟨g,c,a7,rfl,b5,hg,a3,b6,by omega,by simpa using b7⟩⟩;by_cases hc0:c=0;(· subst hc0;obtain rfl:n=0:=(by omega);have hx:xs=[]:=ig (by omega);subst hx;obtain⟨F,w',k1,G,q⟩:=run_append_arg_grows (P:=P) w t ty e i z 1 bytes J K U W X Y (by decide) ⟨g,0,none⟩ 0 0 [] rfl (by simp) ⟨b2,o2,none⟩ m c2 l (by omega) a0 (by omega) (by simp only [dn]at a1;omega) (by simp only [dn,et,<- C]at H⊢;exact H);simp only [et,gy]at G;obtain⟨O,Q,rfl,_,_⟩:=G.form (by omega);have ho:=(fJ G).mono hB;refine⟨some ⟨O,0,none⟩,Q,w',?_,?_,⟨q.os,q.tape,q.output,q.size,fun k hk _=>q.block k hk (by simp)⟩⟩;(· rw [k1];simp [C]);· simp only [dn,et,gy,<- C];exact ho);· obtain⟨F,w',k1,G,q,_,k5⟩:=run_append_own_at (P:=P) w B t ty e i z 1 bytes J K U W X Y (by decide) _ n xs b8 ⟨b2,o2,none⟩ m c2 l (by omega) a0 h1 (by omega) (by rw [I,C];exact H) hB;obtain⟨O,Q,rfl,_,_⟩:=G.form (by omega);obtain⟨c',rfl⟩:∃c',c=c'+1:=⟨c - 1,by omega⟩;refine⟨some ⟨O,0,none⟩,Q,w',?_,?_,?_⟩;(· rw [k1];simp [C,I]);(· rw [<- C,<- I];exact fJ G);· exact q
theorem oJ {w:World}{B:Nat}{e:TypeId}{v:Value}{xs:List Value}(h:Own w B e v xs):∀k,aQ v=some k->B<=k:=by
 obtain⟨A,n,c,rfl,q,⟨rfl,rfl⟩ | ⟨g,C,rfl,F,_⟩⟩:=h;· intro k l;cases A<;>simp [aQ]at l
 · intro k l;cases c with | zero=>simp [aQ]at l | succ c=>simp [aQ]at l;omega
section
variable {P:Program}{ops:Array Oper}{rest:List Oper}{o:Oper}{a:Act}{Q:Exit->Act->World->Prop}{w w0:World}
theorem jI {t e:TypeId}{bytes B:Nat}(H:P5 P t e bytes){v q:Value}{xs l:List Value}(C:Own w B e v xs)(I:Rd w q l)(J:∀u∈l,u.oneCell'=true)(K:Below B w0 w)(N:(xs.length+l.length)*bytes<=140737488355328)(O:xs.length+l.length<=maxLen)(F:B<=w.heap.size){s x:Operand}(U:o.guard=none)(ho:o.op=.call {callee:=.builtin .append,args:=#[s,x],argTypes:=#[t,t]})(W:a.eval s=v)(X:a.eval x=q)(h:∀A c w',Own w' B e (.slice A (xs.length+l.length) c) (xs++l)->Below B w0 w'->w.grownBy w' (aQ v)->wpList P ops Q rest (a.put o.dst (.slice A (xs.length+l.length) c)) w'):wpList P ops Q (o::rest) a w:=wpList_plain U fun _ Y=>by obtain⟨A,c,w',a0,h2,G⟩:=WQ (P:=P) (ty:=o.type) H C I J N O F;unfold Oper.wp execOp;simp only [ho,resolve,invoke,builtin,Sem.run_bind,Sem.run_pure,Result.andThen_ok,List.map_toArray,List.map_cons,List.map_nil,W,X,a0];exact Y _ _ (h A c w' h2 (K.grown G F (oJ C)) G)
theorem Rd.lit(w:World)(cs:Array Value)(e:TypeId)(n:Nat)(l:n=cs.size)(q:n<=maxLen):Rd (w.alloc (.cells cs e)) (.slice (some ⟨w.heap.size,0,none⟩) n n) cs.toList:=by refine⟨_,n,n,rfl,by simpa using l,bh _,q,fun _=>⟨_,0,rfl,fun j u C=>?_⟩⟩;rw [et,cell_of_row _ _ j cs e (0,0) (heap_alloc_new w _)];simpa using C
theorem Own.lit(w:World)(cs:Array Value)(e:TypeId)(n:Nat)(l:n=cs.size)(q:n<=maxLen):Own (w.alloc (.cells cs e)) w.heap.size e (.slice (some ⟨w.heap.size,0,none⟩) n n) cs.toList:=⟨_,n,n,rfl,by simpa using l,.inr ⟨_,cs,rfl,bh _,heap_alloc_new w _,bh _,q,l.symm,by rw [l,<- Array.length_toList];exact List.take_length⟩⟩
theorem Rd.cut {xs:List Value}(i j:Nat){A:Option Addr}{n c:Nat}(h:Rd w (.slice A n c) xs)(J:i<=j)(K:j<=xs.length):Rd w (.slice (if c=i then A else A.map (·.add i)) (j - i) (c - i)) ((xs.drop i).take (j - i)):=by
 obtain⟨N,O,Q,q,U,W,X,C⟩:=h;injection q with F G H;subst F G H;refine⟨_,_,_,rfl,by simp;omega,by omega,by omega,fun Y=>?_⟩;obtain⟨b,o,rfl,I⟩:=C (by omega);by_cases hci:c=i;· omega
 · refine⟨b,o+i,by simp [hci,Addr.add_lit],fun k u l=>?_⟩;rw [List.getElem?_take]at l;split at l;(· rw [List.getElem?_drop]at l;have:=I (i+k) u l;rwa [<- ch]at this);· cases l
end
theorem Below.drewN_ {B:Nat}{a w:World}(h:Below B a w)(n:Nat):Below B a (w.drewN n):=⟨h.os,h.tape,h.output,h.size,h.block⟩
theorem Ext.drewN_(w:World)(n:Nat):Ext w (w.drewN n):=Below.drewN_ (Below.refl _ _) n
def bv(b:UInt8):Value:=.int .u8 (b.toNat:Int)
def ce(l:List UInt8):List Value:=l.map bv
theorem bM(l:List UInt8):(ce l).length=l.length:=by simp [ce]
theorem rH(l m:List UInt8):ce l++ce m=ce (l++m):=by simp [ce]
theorem NF {l:List UInt8}{j:Nat}{u:Value}(h:(ce l)[j]?=some u):∃q:j<l.length,u=.int .u8 (l[j].toNat:Int):=by simp only [ce,List.getElem?_map,Option.map_eq_some_iff]at h;obtain⟨x,C,rfl⟩:=h;obtain⟨q,rfl⟩:=List.getElem?_eq_some_iff.1 C;exact⟨q,rfl⟩
theorem KG {l:List UInt8}{j:Nat}(h:j<l.length):(ce l)[j]?=some (.int .u8 (l[j].toNat:Int)):=by simp [ce,bv,h]
theorem NG(l:List UInt8):∀u∈ce l,u.oneCell'=true:=by intro u q;obtain⟨x,_,rfl⟩:=List.mem_map.1 q;rfl
def u8(z:Int):UInt8:=UInt8.ofNat (z % 256).toNat
theorem eO(z:Int):((u8 z).toNat:Int)=z % 256:=by
 unfold u8;have h:(z % 256).toNat<256:=by omega
 rw [UInt8.toNat_ofNat'];simp only [Nat.reducePow];omega
theorem rY(z:Int):bv (u8 z)=.int .u8 (z % 256):=by unfold bv;rw [eO]
def ct(x:Int):List UInt8:=[u8 (x/16777216),u8 (x/65536),u8 (x/256),u8 x]
theorem wZ(x:Int):ce (ct x)=[.int .u8 (x/16777216 % 256),.int .u8 (x/65536 % 256),.int .u8 (x/256 % 256),.int .u8 (x % 256)]:=by simp [ce,ct,rY]
def cA(l:List UInt8)(i:Nat):Int:=((l.getD i 0).toNat:Int)
theorem dU(l:List UInt8)(i:Nat):0<=cA l i:=by unfold cA;omega
theorem dV(l:List UInt8)(i:Nat):cA l i<256:=by unfold cA;have:=UInt8.toNat_lt (l.getD i 0);omega
theorem lA {l:List UInt8}{i:Nat}(h:i<l.length):cA l i=(l[i].toNat:Int):=by unfold cA;simp [List.getD_eq_getElem?_getD,h]
theorem Rd.bytes {w:World}{v:Value}{l:List UInt8}(h:Rd w v (ce l)):∃A n c,v=.slice A n c/\n=l.length/\n<=c/\c<=maxLen/\(0<n->∃b o,A=some ⟨b,o,none⟩/\b<w.heap.size/\∀j,j<n->w.cell? ⟨b,o+j,none⟩=some (.int .u8 (cA l j))):=by
 obtain⟨A,n,c,rfl,q,H,I,J⟩:=h;rw [bM]at q;refine⟨A,n,c,rfl,q,H,I,fun C=>?_⟩;obtain⟨b,o,rfl,K⟩:=J C;have F:∀j,j<n->w.cell? ⟨b,o+j,none⟩=some (.int .u8 (cA l j)):=fun j G=>by rw [lA (q▸G)];exact K j _ (KG (q▸G))
 exact⟨b,o,rfl,World.block_lt_of_cell? w _ (F 0 C),F⟩
theorem Rd.mkB {w:World}{b o n c:Nat}{l:List UInt8}(q:n=l.length)(F:n<=c)(G:c<=maxLen)(H:∀j,j<n->w.cell? ⟨b,o+j,none⟩=some (.int .u8 (cA l j))):Rd w (.slice (some ⟨b,o,none⟩) n c) (ce l):=⟨_,n,c,rfl,by rw [bM];exact q,F,G,fun _=>⟨b,o,rfl,fun j u I=>by obtain⟨C,rfl⟩:=NF I;rw [H j (q▸C),lA C]⟩⟩
theorem xK(l:List UInt8)(i j:Nat):cA (l.drop i) j=cA l (i+j):=by unfold cA;simp [List.getD_eq_getElem?_getD]
def fh(w:World)(k:IntKind)(v:Value)(l:List Int):Prop:=Rd w v (l.map (Value.int k))
theorem fh.ints {w:World}{k:IntKind}{v:Value}{l:List Int}(h:fh w k v l):∃A n c,v=.slice A n c/\n=l.length/\n<=c/\c<=maxLen/\(0<n->∃b o,A=some ⟨b,o,none⟩/\b<w.heap.size/\∀j,j<n->w.cell? ⟨b,o+j,none⟩=some (.int k (l.getD j 0))):=by obtain⟨A,n,c,rfl,q,H,I,J⟩:=h;rw [List.length_map]at q;refine⟨A,n,c,rfl,q,H,I,fun C=>?_⟩;obtain⟨b,o,rfl,K⟩:=J C;have F:∀j,j<n->w.cell? ⟨b,o+j,none⟩=some (.int k (l.getD j 0)):=fun j G=>K j _ (by rw [List.getElem?_map,dg (q▸G)];simp [List.getD_eq_getElem?_getD,q▸G]);exact⟨b,o,rfl,World.block_lt_of_cell? w _ (F 0 C),F⟩
def gU(w:World)(l:List UInt8)(e:Ending)(w':World):Prop:= ∃A n c,e=.returned (.slice A n c)/\Hid (n=l.length)/\Own w' w.heap.size 5 (.slice A n c) (ce l)/\Ext w w'
def eP(w:World)(v:Value)(e:Ending)(w':World):Prop:=e=.returned v/\Ext w w'
set_option linter.unusedVariables false
def mA(n:Nat):Nat:=(119 - n % 64) % 64
theorem rZ(n:Nat):mA n<64:=by unfold mA;omega
theorem pX {n k:Nat}(h:k<=mA n):(n+1+k) % 64=56↔k=mA n:=by unfold mA at*;omega
def be8(n:Int):List UInt8:=(List.range 8).map fun k=>u8 (n/2^(8*(7 - k)))
theorem nM(n:Int):(be8 n).length=8:=by simp [be8]
theorem RM(n:Int){k:Nat}(h:k<8):(be8 n).take (k+1)=(be8 n).take k++[u8 (n/2^(8*(7 - k)))]:=by rw [List.take_succ_eq_append_getElem (by rw [nM];exact h)];simp [be8]
def jr(l:List UInt8):List UInt8:=l++[128]++List.replicate (mA l.length) 0++be8 (8*(l.length:Int))
theorem lH(l:List UInt8):(jr l).length=l.length+1+mA l.length+8:=by simp [jr,nM];omega
theorem WR(l:List UInt8):(jr l).length % 64=0:=by rw [lH];unfold mA;omega
theorem FF(l:List UInt8)(k:Nat):l++List.replicate k 0++[0]=l++List.replicate (k+1) (0:UInt8):=by rw [fc,<- List.replicate_succ']
theorem WS(n:Int):ct (n/4294967296)++ct (n % 4294967296)=be8 n:=by
 have l:∀a b:Int,a % 256=b % 256->u8 a=u8 b:=fun a b h=>by unfold u8;rw [h]
 simp only [ct,be8,List.range,List.range.loop,List.map_cons,List.map_nil,List.cons_append,gy,List.cons.injEq,and_true];refine⟨?_,?_,?_,?_,?_,?_,?_,?_⟩<;>(apply l;simp only [Nat.reduceSub,Nat.reduceMul,Int.reducePow];try omega)
open Go
def a0b(a b c d:Int):Int:=bits .or .u32 (bits .or .u32 (bits .or .u32 (a*16777216) (b*65536)) (c*256)) d
def uG(l:List UInt8)(i:Nat):Int:=a0b (cA l i) (cA l (i+1)) (cA l (i+2)) (cA l (i+3))
theorem FG(l:List UInt8)(i:Nat):uG (l.drop i) 0=uG l i:=by simp only [uG,xK,Nat.add_zero,et]
def oD(x n:Int):Int:=bits .or .u32 (x/2^n.toNat) (x*2^(32 - n).toNat % 4294967296)
def sm0(x:Int):Int:=bits .xor .u32 (bits .xor .u32 (oD x 7) (oD x 18)) (x/8)
def sm1(x:Int):Int:=bits .xor .u32 (bits .xor .u32 (oD x 17) (oD x 19)) (x/1024)
def bg0(x:Int):Int:=bits .xor .u32 (bits .xor .u32 (oD x 2) (oD x 13)) (oD x 22)
def bg1(x:Int):Int:=bits .xor .u32 (bits .xor .u32 (oD x 6) (oD x 11)) (oD x 25)
def xL(y l x q:Int):Int:=(sm1 y+l+sm0 x+q) % 4294967296
def iV (l:List UInt8):Nat->List Int
 | 0=>[]
 | t+1=>iV l t++[if t<16 then uG l (4*t) else xL ((iV l t).getD (t - 2) 0) ((iV l t).getD (t - 7) 0) ((iV l t).getD (t - 15) 0) ((iV l t).getD (t - 16) 0)]
theorem hF (l:List UInt8):∀ t,(iV l t).length=t
 | 0=>rfl
 | t+1=>by simp [iV,hF l t]
def dS(l:List UInt8)(t:Nat):Int:=(iV l 64).getD t 0
theorem sB (l:List UInt8) (t:Nat):∀ k,(iV l (t+k)).take t=iV l t
 | 0=>by rw [Nat.add_zero,List.take_of_length_le (by rw [hF];exact bh _)]
 | k+1=>by
   rw [<- ch,iV,List.take_append_of_le_length (by rw [hF];omega),sB l t k]
theorem lB(l:List UInt8){n t:Nat}(C:n<=64)(q:t<n):(iV l n).getD t 0=dS l t:=by unfold dS;have h:=sB l n (64 - n);rw [show n+(64 - n)=64 by omega]at h;rw [<- h];simp [List.getD_eq_getElem?_getD,q]
theorem uH(l:List UInt8){t:Nat}(q:t<16):dS l t=uG l (4*t):=by rw [<- lB l (n:=t+1) (by omega) (by omega)];simp [iV,List.getD_eq_getElem?_getD,hF,q]
theorem uI(l:List UInt8){t:Nat}(q:16<=t)(C:t<64):dS l t=xL (dS l (t - 2)) (dS l (t - 7)) (dS l (t - 15)) (dS l (t - 16)):=by
 rw [<- lB l (n:=t+1) (by omega) (by omega)];have e:(iV l (t+1)).getD t 0=xL ((iV l t).getD (t - 2) 0) ((iV l t).getD (t - 7) 0) ((iV l t).getD (t - 15) 0) ((iV l t).getD (t - 16) 0):=by simp only [iV,List.getD_eq_getElem?_getD];rw [List.getElem?_append_right (by rw [hF];exact bh _),hF];simp [show¬t<16 by omega]
 rw [e,lB l (by omega) (by omega),lB l (by omega) (by omega),lB l (by omega) (by omega),lB l (by omega) (by omega)]
def a1d:List Int:=[1116352408,1899447441,3049323471,3921009573,961987163,1508970993,2453635748,2870763221,3624381080,310598401,607225278,1426881987,1925078388,2162078206,2614888103,3248222580,3835390401,4022224774,264347078,604807628,770255983,1249150122,1555081692,1996064986,2554220882,2821834349,2952996808,3210313671,3336571891,3584528711,113926993,338241895,666307205,773529912,1294757372,1396182291,1695183700,1986661051,2177026350,2456956037,2730485921,2820302411,3259730800,3345764771,3516065817,3600352804,4094571909,275423344,430227734,506948616,659060556,883997877,958139571,1322822218,1537002063,1747873779,1955562222,2024104815,2227730452,2361852424,2428436474,2756734187,3204031479,3329325298]
def kAt(t:Nat):Int:=a1d.getD t 0
structure S8 where
 a:Int
 b:Int
 c:Int
 d:Int
 e:Int
 f:Int
 g:Int
 h:Int
def chF(e f g:Int):Int:=bits .xor .u32 (bits .and .u32 e f) (bits .and .u32 (bits .xor .u32 IntKind.u32.max e) g)
theorem a2B:(if IntKind.u32.signed=true then(-1:Int)else IntKind.u32.max)=IntKind.u32.max:=rfl
def mjF(a b c:Int):Int:=bits .xor .u32 (bits .xor .u32 (bits .and .u32 a b) (bits .and .u32 a c)) (bits .and .u32 b c)
def t1F(s:S8)(k w:Int):Int:=s.h+bg1 s.e+chF s.e s.f s.g+k+w
def t2F(s:S8):Int:=bg0 s.a+mjF s.a s.b s.c
def nN(s:S8)(k w:Int):S8:=⟨(t1F s k w+t2F s) % 4294967296,s.a,s.b,s.c,(s.d+t1F s k w) % 4294967296,s.e,s.f,s.g⟩
def nO (l:List UInt8) (s:S8):Nat->S8
 | 0=>s
 | t+1=>nN (nO l s t) (kAt t) (dS l t)
def FH(s:List Int):S8:=⟨s.getD 0 0,s.getD 1 0,s.getD 2 0,s.getD 3 0,s.getD 4 0,s.getD 5 0,s.getD 6 0,s.getD 7 0⟩
def FI (s:List Int) (l:List UInt8):List Int :=
 let r:=nO l (FH s) 64
 [(s.getD 0 0+r.a) % 4294967296,(s.getD 1 0+r.b) % 4294967296,(s.getD 2 0+r.c) % 4294967296,(s.getD 3 0+r.d) % 4294967296,(s.getD 4 0+r.e) % 4294967296,(s.getD 5 0+r.f) % 4294967296,(s.getD 6 0+r.g) % 4294967296,(s.getD 7 0+r.h) % 4294967296]
def uJ:List Int:=[1779033703,3144134277,1013904242,2773480762,1359893119,2600822924,528734635,1541459225]
def kL (p:List UInt8):Nat->List Int
 | 0=>uJ
 | k+1=>FI (kL p k) ((p.drop (64*k)).take 64)
theorem eY (p:List UInt8):∀ k,(kL p k).length=8
 | 0=>rfl
 | k+1=>rfl
def lI(s:List Int):List UInt8:=(s.map ct).flatten
def sha(l:List UInt8):List UInt8:=lI (kL (jr l) ((jr l).length/64))
def num(l:List UInt8):Int:=l.foldl (fun n c=>256*n+(c.toNat:Int)) 0
theorem FJ(l:List UInt8)(c:UInt8):num (l++[c])=256*num l+(c.toNat:Int):=by simp [num]
theorem FK {l:List UInt8}{k:Nat}(h:k<l.length):num (l.take (k+1))=256*num (l.take k)+cA l k:=by rw [List.take_succ_eq_append_getElem h,FJ,lA h]
theorem KH:∀ (k:Nat) (l:List UInt8),l.length=k->0<=num l/\num l<256 ^ k
 | 0,l,h=>by
   obtain rfl:=ig h
   decide
 | k+1,l,h=>by
   have q:l=l.take k++[l[k]]:=by
    rw [<- List.take_succ_eq_append_getElem (by omega),List.take_of_length_le (by omega)]
   have C:=KH k (l.take k) (by rw [gc];omega)
   have F:((l[k].toNat:Nat):Int)<256:=by have:=UInt8.toNat_lt l[k];omega
   rw [q,FJ,Int.pow_succ]
   generalize num (l.take k)=x at *
   generalize (256:Int) ^ k=y at *
   omega
theorem xA {l:List UInt8}(h:l.length<=7):0<=num l/\num l<72057594037927936:=by
 obtain⟨q,C⟩:=KH _ l rfl;refine⟨q,Int.lt_of_lt_of_le C ?_⟩;have:∀k,k<=7->(256:Int)^k<=72057594037927936:=by decide
 exact this _ h
theorem DI(l:List UInt8)(k:Nat)(F:k<=6)(h:l.length<=7):0<=num (l.take k)/\num (l.take k)<281474976710656:=by
 obtain⟨q,C⟩:=KH _ (l.take k) rfl;refine⟨q,Int.lt_of_lt_of_le C ?_⟩;have:∀k,k<=6->(256:Int)^k<=281474976710656:=by decide
 exact this _ (by rw [gc];omega)
theorem KJ(a b:Nat)(l:a<9223372036854775808)(q:b<9223372036854775808):bits .or .i64 (a:Int) (b:Int)=((a|||b:Nat):Int):=by
 have C:a|||b<2^63:=Nat.or_lt_two_pow (by omega) (by omega);have e:∀c:Nat,c<9223372036854775808->(BitVec.ofInt 64 (c:Int)).toNat=c:=fun c F=>by rw [BitVec.ofInt_natCast,BitVec.toNat_ofNat];exact Nat.mod_eq_of_lt (by omega)
 show IntKind.i64.wrap ((BitVec.ofInt 64 (a:Int)|||BitVec.ofInt 64 (b:Int)).toNat:Int)=_;rw [BitVec.toNat_or,e a l,e b q,IntKind.wrap_i64];omega
theorem a0p {x y:Int}(l:0<=x)(C:x<281474976710656)(q:0<=y)(F:y<256):bits .or .i64 (x*256) y=256*x+y:=by obtain⟨a,rfl⟩:=Int.eq_ofNat_of_zero_le l;obtain⟨b,rfl⟩:=Int.eq_ofNat_of_zero_le q;have h:=KJ (a*256) b (by omega) (by omega);rw [show((a*256:Nat):Int)=(a:Int)*256 by simp]at h;rw [h,Nat.mul_comm a 256,<- Nat.two_pow_add_eq_or_of_lt (i:=8) (by omega)];simp
def RdK(w:World)(k:Nat)(v:Value)(xs:List Value):Prop:= ∃A n c,v=.slice A n c/\n*k=xs.length/\n<=c/\c<=maxLen/\(0<n->∃b o,A=some ⟨b,o,none⟩/\∀j u,xs[j]?=some u->w.cell? ⟨b,o+j,none⟩=some u)
def aK(w:World)(B:Nat)(e:TypeId)(k:Nat)(v:Value)(xs:List Value):Prop:= ∃A n c,v=.slice A n c/\n*k=xs.length/\((n=0/\c=0)\/ ∃g l,A=some ⟨g,0,none⟩/\B<=g/\w.heap[g]?=some (.cells l e (0,0))/\n<=c/\c<=maxLen/\l.size=c*k/\l.toList.take (n*k)=xs)
theorem RdK.nil_(w:World)(k:Nat)(A:Option Addr):RdK w k (.slice A 0 0) []:=⟨A,0,0,rfl,by simp,bh _,by unfold maxLen;omega,fun h=>absurd h (by omega)⟩
theorem aK.empty(w:World)(B:Nat)(e:TypeId)(k:Nat)(A:Option Addr):aK w B e k (.slice A 0 0) []:=⟨A,0,0,rfl,by simp,.inl ⟨rfl,rfl⟩⟩
theorem aK.rd {w:World}{B:Nat}{e:TypeId}{k:Nat}{v:Value}{xs:List Value}(h:aK w B e k v xs):RdK w k v xs:=by
 obtain⟨A,n,c,rfl,q,h | ⟨g,C,rfl,I,hg,F,G,J,H⟩⟩:=h;· obtain⟨rfl,rfl⟩:=h;exact⟨A,0,0,rfl,q,bh _,by unfold maxLen;omega,fun h=>absurd h (by omega)⟩
 · refine⟨_,n,c,rfl,q,F,G,fun _=>⟨g,0,rfl,fun j u l=>?_⟩⟩;rw [et,cell_of_row w g j C e (0,0) hg];rw [<- H,List.getElem?_take]at l;split at l;(· simpa using l);· cases l
theorem RdK.keep {w w':World}{k:Nat}{v:Value}{xs:List Value}(h:RdK w k v xs)(C:∀p:Addr,p.block<w.heap.size->w'.cell? p=w.cell? p):RdK w' k v xs:=by obtain⟨A,n,c,rfl,F,G,H,I⟩:=h;refine⟨A,n,c,rfl,F,G,H,fun J=>?_⟩;obtain⟨b,o,rfl,l⟩:=I J;exact⟨b,o,rfl,fun j u q=>(C _ (World.block_lt_of_cell? w _ (l j u q))).trans (l j u q)⟩
theorem RdK.ext {w w':World}{k:Nat}{v:Value}{xs:List Value}(h:RdK w k v xs)(l:Ext w w'):RdK w' k v xs:=h.keep fun _ q=>l.cell q
theorem aK.mono {w:World}{B B':Nat}{e:TypeId}{k:Nat}{v:Value}{xs:List Value}(h:aK w B e k v xs)(q:B'<=B):aK w B' e k v xs:=by
 obtain⟨A,n,c,rfl,l,h | ⟨g,C,rfl,F,G⟩⟩:=h;· exact⟨A,n,c,rfl,l,.inl h⟩
 · exact⟨_,n,c,rfl,l,.inr ⟨g,C,rfl,dm q F,G⟩⟩
theorem aK.ext {w w':World}{B:Nat}{e:TypeId}{k:Nat}{v:Value}{xs:List Value}(h:aK w B e k v xs)(q:Ext w w'):aK w' B e k v xs:=by
 obtain⟨A,n,c,rfl,l,h | ⟨g,C,rfl,F,hg,G⟩⟩:=h;· exact⟨A,n,c,rfl,l,.inl h⟩
 · exact⟨_,n,c,rfl,l,.inr ⟨g,C,rfl,F,(q.block g (a9 hg)).trans hg,G⟩⟩
theorem aK.grown {w w':World}{B:Nat}{e:TypeId}{k:Nat}{v:Value}{xs:List Value}{row:Option Nat}(h:aK w B e k v xs)(hg:w.grownBy w' row)(F:aQ v=none\/aQ v≠row):aK w' B e k v xs:=by
 obtain⟨A,n,c,rfl,l,h | ⟨g,G,rfl,H,q,I,J⟩⟩:=h;· exact⟨A,n,c,rfl,l,.inl h⟩
 · by_cases hc0:c=0;(· subst hc0;exact⟨_,n,0,rfl,l,.inl ⟨by omega,rfl⟩⟩);· refine⟨_,n,c,rfl,l,.inr ⟨g,G,rfl,H,(hg.block g (a9 q) ?_).trans q,I,J⟩⟩;obtain⟨C,rfl⟩:∃C,c=C+1:=⟨c - 1,by omega⟩;rcases F with h | h;(· simp [aQ]at h);· simpa [aQ]using h
structure mB (P:Program) (t e:TypeId) (k bytes:Nat):Prop where
 ex:∃ i z,P.underlying t=some (.slice e)/\P.info? e=some i/\i.zero=some z/\i.size=k/\i.bytes=bytes/\z.cells.size=k
theorem iW {w:World}{l:Nat}{e:TypeId}{k:Nat}{v:Value}{n:Nat}{xs:List Value}(N:0<k)(h:w.ownsRow l e k v n xs):aK w l e k v xs:=by
 have q:=h.1;rcases h.2 with⟨rfl,rfl⟩ | ⟨g,C,F,rfl,G,hg,H,I,J,K⟩;· have:xs=[]:=ig (by simpa using q);subst this;exact aK.empty _ _ _ _ _
 · exact⟨_,n,C,rfl,q.symm,.inr ⟨g,F,rfl,G,hg,H,I,J,K⟩⟩
theorem aZ {w:World}{B:Nat}{e:TypeId}{k:Nat}{v:Value}{xs:List Value}(h:aK w B e k v xs):∀r,aQ v=some r->B<=r:=by
 obtain⟨A,n,c,rfl,q,⟨rfl,rfl⟩ | ⟨g,C,rfl,F,_⟩⟩:=h;· intro k l;cases A<;>simp [aQ]at l
 · intro k l;cases c with | zero=>simp [aQ]at l | succ c=>simp [aQ]at l;omega
theorem pY {P:Program}{w:World}{t ty e:TypeId}{k bytes B:Nat}(C:0<k)(he:mB P t e k bytes){v b6:Value}{n m:Nat}{xs F:List Value}(cD:aK w B e k v xs)(b7:n*k=xs.length)(G:RdK w k b6 F)(b8:m*k=F.length)(h1:∀u∈F,u.oneCell'=true)(Y:(n+m)*bytes<=140737488355328)(a0:n+m<=maxLen)(hB:B<=w.heap.size): ∃A c w',(Builtin.append_ #[t,t] ty #[v,b6]).run P w=.ok (.slice A (n+m) c) w'/\aK w' B e k (.slice A (n+m) c) (xs++F)/\w.grownBy w' (aQ v)/\(∀r,aQ (.slice A (n+m) c)=some r->aQ v=some r\/w.heap.size<=r):=by
 obtain⟨i,z,W,X,hz,a1,a2,a3⟩:=he.ex;obtain⟨A,H,c,rfl,K,a4⟩:=cD;obtain⟨O,I,c2,rfl,Q,d2,d3,cI⟩:=G;obtain rfl:H=n:=je C (K.trans b7.symm);obtain rfl:I=m:=je C (Q.trans b8.symm);clear b7 b8;by_cases hm0:I=0;· subst hm0;have cJ:F=[]:=ig (by rw [<- Q];simp);subst cJ;have a5:H<=c:=(by rcases a4 with h | ⟨g,b9,_,_,_,h,_⟩;(· omega);· exact h);refine⟨A,c,w,?_,?_,⟨rfl,rfl,rfl,bh _,fun _ _ _=>rfl⟩,fun r G=>.inl (by cases A<;>cases c<;>first | exact G | (simp [aQ]at G))⟩;(· rw [oI W X A O H c c2 a5];simp);· simp only [Nat.add_zero,List.append_nil];exact⟨A,H,c,rfl,K,a4⟩
 · obtain⟨b2,o2,rfl,cL⟩:=cI (by omega);have a6:∀j u,F[j]?=some u->w.cell? ((⟨b2,o2,none⟩:Addr).add j)=some u:=(by intro j u hu;rw [Addr.add_lit];exact cL j u hu);have bB:∀(A:Option Addr)(bS:xs=[]),∃l w',(Builtin.append_ #[t,t] ty #[.slice A 0 0,.slice (some ⟨b2,o2,none⟩) I c2]).run P w=.ok l w'/\w'.ownsRow w.heap.size e k l I F/\w.grownBy w' none:=(by intro A bS;subst bS;have cR:H=0:=(by have:H*k=0:=(by simpa using K);rcases Nat.mul_eq_zero.1 this with h | h;(· exact h);· omega);subst cR;cases A with | none=>obtain⟨l,w',a7,U,a8,_⟩:=run_append_own (P:=P) w w.heap.size t ty e i z k bytes W X hz a1 a2 a3 C (.slice none 0 0) 0 [] (World.ownsRow_nil _ _ _ _) ⟨b2,o2,none⟩ I c2 F Q.symm a6 h1 a0 Y (bh _);simp only [et,gy]at U;exact⟨l,w',a7,U,a8⟩ | some ad=>obtain⟨l,w',a7,U,a8⟩:=run_append_arg_grows (P:=P) w t ty e i z k bytes W X hz a1 a2 a3 C ad 0 0 [] (by simp) (by simp) ⟨b2,o2,none⟩ I c2 F Q.symm a6 (by omega) a0 Y;simp only [et,gy]at U;exact⟨l,w',a7,U,a8⟩);have fin:∀l w',w'.ownsRow w.heap.size e k l I F->w.grownBy w' none->H=0->xs=[]->∃O b0,l=.slice O I b0/\aK w' B e k (.slice O I b0) F/\∀r,aQ (.slice O I b0)=some r->w.heap.size<=r:=(by intro l w' N k3 _ _;obtain⟨g',b3,rfl,_,_⟩:=N.form (by omega);exact⟨_,_,rfl,(iW C N).mono hB,aZ (iW C N)⟩);rcases a4 with⟨h0,b4⟩ | ⟨g,b9,rfl,cS,hg,a5,cU,cV,cX⟩;(· subst h0 b4;have J:xs=[]:=ig (by rw [<- K];simp);obtain⟨l,w',q1,q2,q⟩:=bB A J;obtain⟨A3,c3,rfl,ho,b5⟩:=fin l w' q2 q rfl J;subst J;refine⟨A3,c3,w',?_,?_,⟨q.os,q.tape,q.output,q.size,fun k C _=>q.block k C (by simp)⟩,fun r G=>.inr (b5 r (by simpa using G))⟩;(· rw [q1];simp);· simp only [et,gy];exact ho);· have d0:w.ownsRow B e k (.slice (some ⟨g,0,none⟩) H c) H xs:=⟨K.symm,.inr ⟨g,c,b9,rfl,cS,hg,a5,cU,cV,cX⟩⟩;by_cases b4:c=0;(· subst b4;obtain rfl:H=0:=(by omega);have J:xs=[]:=ig (by rw [<- K];simp);obtain⟨l,w',q1,q2,q⟩:=bB (some ⟨g,0,none⟩) J;obtain⟨A3,c3,rfl,ho,b5⟩:=fin l w' q2 q rfl J;subst J;refine⟨A3,c3,w',?_,?_,⟨q.os,q.tape,q.output,q.size,fun k C _=>q.block k C (by simp)⟩,fun r G=>.inr (b5 r (by simpa using G))⟩;(· rw [q1];simp);· simp only [et,gy];exact ho);· obtain⟨l,w',k1,N,k3,_,k5⟩:=run_append_own_at (P:=P) w B t ty e i z k bytes W X hz a1 a2 a3 C _ H xs d0 ⟨b2,o2,none⟩ I c2 F Q.symm a6 h1 a0 Y hB;obtain⟨g',b3,rfl,_,_⟩:=N.form (by omega);obtain⟨c',rfl⟩:∃c',c=c'+1:=⟨c - 1,by omega⟩;refine⟨some ⟨g',0,none⟩,b3,w',k1,iW C N,k3,fun r G=>?_⟩;cases b3 with | zero=>simp [aQ]at G | succ d4=>have d1:g'=r:=(by simpa [aQ]using G);subst d1;rcases k5 with h | h;(· exact .inl (h.symm.trans rfl));· exact .inr (Nat.le_of_eq (Option.some.inj h).symm)
theorem xM {P:Program}{w:World}{t ty e:TypeId}{k bytes B:Nat}(F:0<k)(G:mB P t e k bytes){v C:Value}{n m:Nat}{xs l:List Value}(H:aK w B e k v xs)(I:n*k=xs.length)(J:RdK w k C l)(K:m*k=l.length)(q:∀u∈l,u.oneCell'=true)(N:(n+m)*bytes<=140737488355328)(O:n+m<=maxLen)(Q:B<=w.heap.size): ∃A c w',(Builtin.append_ #[t,t] ty #[v,C]).run P w=.ok (.slice A (n+m) c) w'/\aK w' B e k (.slice A (n+m) c) (xs++l)/\w.grownBy w' (aQ v):=by obtain⟨A,c,w',q,U,W,_⟩:=pY (ty:=ty) F G H I J K q N O Q;exact⟨A,c,w',q,U,W⟩
section
variable {P:Program}{ops:Array Oper}{rest:List Oper}{o:Oper}{a:Act}{Q:Exit->Act->World->Prop}{w w0:World}
theorem bG {t e:TypeId}{k bytes B:Nat}(I:0<k)(J:mB P t e k bytes){v C:Value}{n m:Nat}{xs l:List Value}(F:aK w B e k v xs)(K:n*k=xs.length)(N:RdK w k C l)(O:m*k=l.length)(U:∀u∈l,u.oneCell'=true)(W:Below B w0 w)(X:(n+m)*bytes<=140737488355328)(Y:n+m<=maxLen)(G:B<=w.heap.size){s x:Operand}(a0:o.guard=none)(ho:o.op=.call {callee:=.builtin .append,args:=#[s,x],argTypes:=#[t,t]})(hs:a.eval s=v)(hx:a.eval x=C)(h:∀A q c w',Hid (q=n+m)->aK w' B e k (.slice A q c) (xs++l)->Below B w0 w'->w.grownBy w' (aQ v)->wpList P ops Q rest (a.put o.dst (.slice A q c)) w'):wpList P ops Q (o::rest) a w:=wpList_plain a0 fun _ hK=>by obtain⟨A,c,w',a1,h2,H⟩:=xM (P:=P) (ty:=o.type) I J F K N O U X Y G;unfold Oper.wp execOp;simp only [ho,resolve,invoke,builtin,Sem.run_bind,Sem.run_pure,Result.andThen_ok,List.map_toArray,List.map_cons,List.map_nil,hs,hx,a1];exact hK _ _ (h A _ c w' (show _=_ from rfl) h2 (W.grown H G (aZ F)) H)
theorem gK {t e:TypeId}{k bytes B:Nat}(I:0<k)(J:mB P t e k bytes){v C:Value}{n m:Nat}{xs l:List Value}(F:aK w B e k v xs)(K:n*k=xs.length)(N:RdK w k C l)(O:m*k=l.length)(U:∀u∈l,u.oneCell'=true)(W:Below B w0 w)(X:(n+m)*bytes<=140737488355328)(Y:n+m<=maxLen)(G:B<=w.heap.size){s x:Operand}(a0:o.guard=none)(ho:o.op=.call {callee:=.builtin .append,args:=#[s,x],argTypes:=#[t,t]})(hs:a.eval s=v)(hx:a.eval x=C)(h:∀A q c w',Hid (q=n+m)->aK w' B e k (.slice A q c) (xs++l)->Below B w0 w'->w.grownBy w' (aQ v)->(∀r,aQ (.slice A q c)=some r->aQ v=some r\/w.heap.size<=r)->wpList P ops Q rest (a.put o.dst (.slice A q c)) w'):wpList P ops Q (o::rest) a w:=wpList_plain a0 fun _ hK=>by obtain⟨A,c,w',a1,h2,H,h4⟩:=pY (P:=P) (ty:=o.type) I J F K N O U X Y G;unfold Oper.wp execOp;simp only [ho,resolve,invoke,builtin,Sem.run_bind,Sem.run_pure,Result.andThen_ok,List.map_toArray,List.map_cons,List.map_nil,hs,hx,a1];exact hK _ _ (h A _ c w' (show _=_ from rfl) h2 (W.grown H G (aZ F)) H h4)
end
theorem RdK.lit(w:World)(k:Nat)(cs:Array Value)(e:TypeId)(n:Nat)(l:n*k=cs.size)(q:n<=maxLen):RdK (w.alloc (.cells cs e)) k (.slice (some ⟨w.heap.size,0,none⟩) n n) cs.toList:=by refine⟨_,n,n,rfl,by simpa using l,bh _,q,fun _=>⟨_,0,rfl,fun j u C=>?_⟩⟩;rw [et,cell_of_row _ _ j cs e (0,0) (heap_alloc_new w _)];simpa using C
theorem aK.lit(w:World)(k:Nat)(cs:Array Value)(e:TypeId)(n:Nat)(l:n*k=cs.size)(q:n<=maxLen):aK (w.alloc (.cells cs e)) w.heap.size e k (.slice (some ⟨w.heap.size,0,none⟩) n n) cs.toList:=⟨_,n,n,rfl,by simpa using l,.inr ⟨_,cs,rfl,bh _,heap_alloc_new w _,bh _,q,l.symm,by rw [l,<- Array.length_toList];exact List.take_length⟩⟩
theorem jW {α:Type} (f:α->List Value) (k:Nat) (q:∀ x,(f x).length=k):∀ l:List α,(l.flatMap f).length=l.length*k
 | []=>by simp
 | x::l=>by rw [List.flatMap_cons,cz,q,jW f k q l,dq,Nat.succ_mul];omega
theorem oK {α:Type} (f:α->List Value) (k:Nat) (q:∀ x,(f x).length=k):∀ (l:List α) (i:Nat) (hi:i<l.length) (j:Nat),j<k->(l.flatMap f)[i*k+j]?=(f l[i])[j]?
 | x::l,0,_,j,C=>by
   rw [List.flatMap_cons,List.getElem?_append_left (by rw [q];omega)]
   simp
 | x::l,i+1,hi,j,C=>by
   rw [List.flatMap_cons,List.getElem?_append_right (by rw [q,Nat.succ_mul];omega),q,show (i+1)*k+j - k=i*k+j by rw [Nat.succ_mul];omega]
   rw [oK f k q l i (by simpa using hi) j C]
   rfl
theorem RdK.flat {w:World}{α:Type}{f:α->List Value}{k:Nat}(C:0<k)(q:∀x,(f x).length=k){v:Value}{l:List α}(h:RdK w k v (l.flatMap f)): ∃A n c,v=.slice A n c/\n=l.length/\n<=c/\c<=maxLen/\(0<n->∃b o,A=some ⟨b,o,none⟩/\b<w.heap.size/\∀(i:Nat)(hi:i<l.length)(j:Nat)(u:Value),(f l[i])[j]?=some u->w.cell? ⟨b,o+i*k+j,none⟩=some u):=by
 obtain⟨A,n,c,rfl,F,H,I,J⟩:=h;have K:n=l.length:=by rw [jW f k q]at F;exact je C F
 refine⟨A,n,c,rfl,K,H,I,fun N=>?_⟩;obtain⟨b,o,rfl,O⟩:=J N;have all:∀(i:Nat)(hi:i<l.length)(j:Nat)(u:Value),(f l[i])[j]?=some u->w.cell? ⟨b,o+i*k+j,none⟩=some u:=fun i hi j u G=>by have Q:j<k:=(by rw [<- q l[i]];exact(List.getElem?_eq_some_iff.1 G).1);rw [ch];exact O _ u (by rw [oK f k q l i hi j Q];exact G)
 refine⟨b,o,rfl,?_,all⟩;have U:0<l.length:=by omega
 have W:0<(f l[0]).length:=by rw [q];exact C
 exact World.block_lt_of_cell? w _ (all 0 U 0 (f l[0])[0] (dg W))
section
open Go Go.RowKit
abbrev aa:=@Below.refl
abbrev ae:=@cell_of_row
abbrev ag:=@IntWalk.i64_in
abbrev ah:=@List.mem_singleton
abbrev ak:=@not_not_intro
abbrev am:=@wpList_load_row
abbrev ao:=@if_neg
abbrev aq:=@List.getElem?_eq_some_iff
abbrev aw:=@decide_eq_false
abbrev ax:=@if_pos
abbrev ay:=@decide_eq_true
abbrev az:=@bodyPost_ret
abbrev bc:=@Option.some.inj
abbrev be:=@World.block_lt_of_cell?
abbrev bf:=@List.getElem?_append_right
abbrev bi:=@List.getElem?_append_left
abbrev bj:=@List.getD_eq_getElem?_getD
abbrev bp:=@results_cell_row
end
end Go.Proofs.YtmmoenkmicimcaaGreatDoor
