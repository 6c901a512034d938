import Derived.Test.YtmmoenkmicimcaaGreatDoorOao
import Derived.Test.YtmmoenkmicimcaaGreatDoorOah
namespace Go.Proofs.YtmmoenkmicimcaaGreatDoor
open Go.RowKit
set_option linter.unusedVariables false
set_option maxRecDepth 100000
def fj:Nat->Int->List UInt8
 | 0,_=>[]
 | k+1,x=>fj k (x / 256)++[u8 x]
theorem j6:∀ (k:Nat) (x:Int),(fj k x).length=k
 | 0,_=>rfl
 | k+1,x=>by rw [fj,cz,j6 k];rfl
theorem a1l(x:Int):fj 1 x=[u8 x]:=rfl
theorem oX(x:Int):fj 3 x=ee x:=by show [u8 (x/256/256),u8 (x/256),u8 x]=_;rw [show x/256/256=x/65536 by omega];rfl
theorem yT(x:Int):fj 4 x=ct x:=by show [u8 (x/256/256/256),u8 (x/256/256),u8 (x/256),u8 x]=_;rw [show x/256/256/256=x/16777216 by omega,show x/256/256=x/65536 by omega];rfl
theorem NW (v:UInt8) (T:List UInt8):∀ k:Nat,(List.replicate (k+1) 0++T).set k v=List.replicate k 0++v::T
 | 0=>rfl
 | k+1=>by
   rw [List.replicate_succ,List.cons_append,bt,NW v T k,List.replicate_succ (n:=k)]
   rfl
theorem a0y(x:Int):u8 (x % 256)=u8 x:=by unfold u8;rw [Int.emod_emod]
def BnL(w:World)(size:Nat)(x:Int)(n i:Value)(wr:World):Prop:= ∃(k:Nat)(y:Int)(T:List UInt8),k<=size/\i=.int .i64 ((k:Int) - 1)/\n=.int .i64 y/\0<=y/\y<9223372036854775808/\fj k y++T=fj size x/\Bk wr w.heap.size (List.replicate k 0++T)/\Below w.heap.size w wr
set_option maxHeartbeats 1000000 in theorem qZ(size:Nat)(x z:Int)(w:World)(J:0<=x)(K:x<9223372036854775808)(N:z=(size:Int))(hs:size<=100):Calls Tryz.prog 52 #[.int .i64 x,.int .i64 z] w fun e w'=>∃A,e=.returned (.slice A size size)/\Own w' w.heap.size 5 (.slice A size size) (ce (fj size x))/\Ext w w':=by
 subst N;go_in;go_wp2_with(refine a1e size _ rfl rfl rfl rfl rfl (by omega) (aa _ _) (bh _) ?_;intro O k1 b1 Q);have F:BnL w size x (.int .i64 x) (.int .i64 ((size:Int) - 1)) O:=⟨size,x,[],bh _,rfl,rfl,J,K,List.append_nil _,by rw [List.append_nil];exact k1,b1⟩;have U:=ab F;clear F k1 b1 Q;go_loopw [0,6](fun n i wr=>BnL w size x n i wr)(fun _ i _=>(intOf i+1).toNat);case atStart=>exact U
 case round=>obtain⟨k,y,T,C,rfl,rfl,y0,y1,G,H,I⟩:=hrel;have q:=ab G;have l:=ab H;clear G H;match k,C,q,l with | 0,C,q,l=>have e:T=fj size x:=(by have:=q.out;simpa [fj]using this);subst e;rw [show((0:Nat):Int) - 1=-1 from rfl];have ho:=l.own (B:=w.heap.size) (bh _) (by simp [j6];unfold maxLen;omega);simp only [List.replicate_zero,gy,j6]at ho;have W:=ab ho;clear ho;go_wp2;go_ret;exact⟨_,rfl,W,I⟩ | k+1,C,q,l=>rw [show((k+1:Nat):Int) - 1=(k:Int)by omega];have hc:=l.cell (j:=k) (by simp;omega);have hf:=l.frozen k;have a0:IntKind.i64.wrap ((k:Int))=(k:Int):=ag _ (by omega);have a1:(0:Int)<=(k:Int):=(by omega);have a2:(k:Int)<(size:Int):=(by omega);have a3:((k:Int)).toNat=k:=(by omega);have X:0<=y/256:=(by omega);have Y:y/256<9223372036854775808:=(by omega);go_wp2;go_roundw;(case rel=>refine⟨k,y/256,u8 y::T,by omega,rfl,rfl,X,Y,?_,?_,I.setCell (p:=⟨w.heap.size,k,none⟩) (bh _) _⟩;(· have:=q.out;rw [fj,fc]at this;exact this);· have:=l.set k (y % 256) (by omega) (by omega);rw [NW,a0y]at this;exact this);case measure=>simp [intOf]
theorem eG(size:Nat)(x z:Int)(w:World)(q:0<=x)(l:x<9223372036854775808)(C:z=(size:Int))(F:size<=100):Calls Tryz.prog 52 #[.int .i64 x,.int .i64 z] w (gU w (fj size x)):=(qZ size x z w q l C F).mono fun e w'⟨A,l,G,H⟩=>⟨_,_,_,l,(show _=_ by rw [j6]),G,H⟩
theorem GN(t:Int)(A:Option Addr)(n c:Nat)(w:World):Calls Tryz.prog 51 #[.int .i64 t,.slice A n c] w (eP w (.agg #[.int .i64 t,.slice A n c,.slice none 0 0])):=by
 go_in;go_wp2_with fail;refine az (v:=.agg #[.int .i64 t,.slice A n c,.slice none 0 0]) ?_ rfl ⟨rfl,?_⟩;· simp [results,Tryz.results51,go_sem]
 · exact(aa _ _).alloc (bh _) _
theorem E8(W:World)(l:List UInt8)(H:l.length<=4096):∃A n c w',(convert 9 48 (.string (aD l))).run Tryz.prog W=.ok (.slice A n c) w'/\Ext W w'/\Hid (n=l.length)/\gh (fun b=>W.heap.size<=b) w' (.slice A n c) (ce l):=by
 have q:(aD l).size=l.length:=by show l.toArray.size=_;simp
 refine⟨_,_,_,_,Lib.run_convert_string_bytes W 9 48 5 (aD l) Tryz.underlying9 Tryz.underlying48 Tryz.underlying5,?_,(show _=_ from q),?_⟩;· exact⟨by simp [Lib.bytesWorld,World.freeze,World.alloc,World.drew,-World.alloc_eq,-World.drew_eq],by simp [Lib.bytesWorld,World.freeze,World.alloc,World.drew,-World.alloc_eq,-World.drew_eq],by simp [Lib.bytesWorld,World.freeze,World.alloc,World.drew,-World.alloc_eq,-World.drew_eq],by rw [Lib.bytesWorld_size];omega,fun k F=>Lib.bytesWorld_at_old _ _ _ _ F⟩
 · refine⟨_,_,_,rfl,by rw [bM];exact q,grownCap_ge _ _ _ _,grownCap_le_maxLen _ _ _ _ (by unfold maxLen;omega),fun _=>⟨_,0,rfl,bh _,fun j u G=>?_⟩⟩;obtain⟨C,rfl⟩:=NF G;rw [et,Lib.bytesWorld_cell _ _ _ _ (by rw [q];exact C)];congr 2;simp [aD,List.getD_eq_getElem?_getD,C]
def gI(size:Nat)(l:List Int):List UInt8:=l.flatMap (fj size)
theorem qE (size:Nat):∀ l:List Int,(gI size l).length=l.length*size
 | []=>by simp [gI]
 | x::l=>by
   have:=qE size l
   unfold gI at *
   rw [List.flatMap_cons,cz,j6,this,dq,Nat.succ_mul,Nat.add_comm]
theorem yU(size:Nat)(l:List Int)(x:Int):gI size (l++[x])=gI size l++fj size x:=by simp [gI]
theorem GO:∀ (size:Nat) (x:Int) (j:Nat),j<size->(fj size x)[j]?=some (u8 (x / 256 ^ (size - 1 - j)))
 | k+1,x,j,l=>by
   rw [fj]
   by_cases h:j<k
   · rw [bi (by rw [j6];exact h),GO k (x / 256) j h,Int.ediv_ediv_of_nonneg (by omega)]
     have e:k+1 - 1 - j=(k - 1 - j)+1:=by omega
     rw [e,Int.pow_succ,Int.mul_comm]
   · obtain rfl:j=k:=by omega
     rw [bf (by rw [j6];exact bh _),j6]
     simp
theorem sW(size:Nat)(x:Int)(j:Nat)(l:j<size):(fj size x).take (size - (j+1))++[u8 (x/256^j)]=(fj size x).take (size - j):=by have h:=GO size x (size - (j+1)) (by omega);rw [show size - 1 - (size - (j+1))=j by omega]at h;rw [show size - j=(size - (j+1))+1 by omega];rw [List.take_add_one,h];rfl
def WdO(w:World)(size:Nat)(l:List Int)(o i:Value)(wr:World):Prop:= ∃(k:Nat)(A:Option Addr)(n c:Nat),k<=l.length/\i=.int .i64 ((k:Nat):Int)/\o=.slice A n c/\Hid (n=(gI size (l.take k)).length)/\Own wr w.heap.size 5 (.slice A n c) (ce (gI size (l.take k)))/\Ext w wr
def WdI(w:World)(size:Nat)(T:List UInt8)(x:Int)(o i:Value)(wr:World):Prop:= ∃(j:Nat)(A:Option Addr)(n c:Nat),j<=size/\i=.int .i64 (((j:Nat):Int) - 1)/\o=.slice A n c/\Hid (n=(T++(fj size x).take (size - j)).length)/\Own wr w.heap.size 5 (.slice A n c) (ce (T++(fj size x).take (size - j)))/\Ext w wr
theorem yV {l:List Int}{k:Nat}(h:k<l.length):l.take (k+1)=l.take k++[l.getD k 0]:=by rw [List.take_succ_eq_append_getElem h];simp [List.getD_eq_getElem?_getD,h]
set_option maxHeartbeats 2000000 in theorem lT(size:Nat){v:Value}{l:List Int}(w:World)(h:fh w .i64 v l)(hs:size<=4)(hl:l.length<=1000):Calls Tryz.prog 48 #[.int .i64 (size:Int),v] w (gU w (gI size l)):=by
 obtain⟨A,n,c,rfl,hn,a7,a8,hA⟩:=h.ints;subst hn;clear h;have HW:=ab (fun k=>qE size (l.take k));have a3:=ab (fun k=>List.length_take_le k l);go_in;go_wp2_with fail;go_loopw [5,7,8,11](fun o _ _ i wr=>WdO w size l o i wr)(fun _ _ _ i _=>l.length - (intOf i).toNat);case atStart=>exact⟨0,none,0,0,de _,rfl,rfl,rfl,DM _ _,aa _ _⟩
 case round=>obtain⟨k,A5,n5,c5,hk,rfl,rfl,O,Q,U⟩:=hrel;by_cases hlt:k<l.length;(· obtain⟨b,a4,rfl,a0,a1⟩:=hA (by omega);have hc:=a1 k hlt;have a5:=(U.cell (p:=⟨b,a4+k,none⟩) a0).trans hc;have b0:b<wr.heap.size:=ew a0 U.size;obtain⟨x,W⟩:∃x,l.getD k 0=x:=⟨_,rfl⟩;rw [W]at a5;have HS:=ab (show gI size (l.take (k+1))=gI size (l.take k)++fj size x by rw [yV hlt,yU,W]);have hT:(gI size (l.take k)).length<=4000:=(by have h1:=HW k;have h2:=a3 k;have h3:=Nat.mul_le_mul (show(l.take k).length<=1000 by omega) hs;omega);obtain⟨T,a2⟩:∃T,gI size (l.take k)=T:=⟨_,rfl⟩;rw [a2]at HS hT O Q;clear hc a1 W a2;go_wp2_with fail;go_loopw [5,8](fun o i wx=>WdI w size T x o i wx)(fun _ i _=>(intOf i+1).toNat);(case atStart=>exact⟨size,_,_,_,bh _,rfl,rfl,(show _=_ by rw [Nat.sub_self,dw,List.append_nil];exact O),by rw [Nat.sub_self,dw,List.append_nil];exact Q,U⟩);case round=>obtain⟨j,A6,n6,c6,hj,rfl,rfl,X,G,N⟩:=hrel;clear O Q U;cases j with | zero=>rw [Nat.sub_zero,List.take_of_length_le (by rw [j6];exact bh _)]at G X;rw [<- HS]at G X;rw [show((0:Nat):Int) - 1=-1 from rfl];go_wp2_with fail;go_roundw;(case rel=>exact⟨k+1,_,_,_,hlt,by go_num,rfl,X,G,N⟩);case measure=>simp [intOf];omega | succ j=>rw [show((j+1:Nat):Int) - 1=(j:Int)by omega];have b3:(T++(fj size x).take (size - (j+1))).length+1<=5000:=(by rw [cz];have:=List.length_take_le (size - (j+1)) (fj size x);omega);have a6:j=0\/j=1\/j=2\/j=3:=(by omega);have b4:w.heap.size<=wr.heap.size:=N.size;have F:=fun cs=>(show Ext wr (wr.alloc (.cells cs 5))from(aa _ _).alloc (bh _) _);rcases a6 with rfl | rfl | rfl | rfl;(· have q:=ab (show(fj size x).take (size - (0+1))++[Go.Proofs.YtmmoenkmicimcaaGreatDoor.u8 (x)]=(fj size x).take (size - 0)by have h:=sW size x 0 (by omega);rw [show(256:Int)^0=1 from rfl]at h;rw [Int.ediv_one]at h;exact h);simp only [Int.cast_ofNat_Int];go_wp2_with(refine lM (ys:=[Go.Proofs.YtmmoenkmicimcaaGreatDoor.u8 (x)]) (w0:=w) (G.ext (F _)) (Rd.oneZ wr (x)) (N.tr (F _)) (by rw [List.length_singleton];omega) (by simp;omega) rfl rfl rfl rfl ?_;intro Y H c7 w7 I C J g7);rw [fc,q]at C;have K:=ab (show H=(T++(fj size x).take (size - 0)).length by rw [<- q,<- fc,cz];exact I);go_roundw;(case rel=>exact⟨0,_,_,_,by omega,by first | rfl | go_num,rfl,K,C,J⟩);case measure=>simp [intOf]);(· have q:=ab (show(fj size x).take (size - (1+1))++[Go.Proofs.YtmmoenkmicimcaaGreatDoor.u8 (x/256)]=(fj size x).take (size - 1)by have h:=sW size x 1 (by omega);rw [show(256:Int)^1=256 from rfl]at h;exact h);simp only [Int.cast_ofNat_Int];go_wp2_with(refine lM (ys:=[Go.Proofs.YtmmoenkmicimcaaGreatDoor.u8 (x/256)]) (w0:=w) (G.ext (F _)) (Rd.oneZ wr (x/256)) (N.tr (F _)) (by rw [List.length_singleton];omega) (by simp;omega) rfl rfl rfl rfl ?_;intro Y H c7 w7 I C J g7);rw [fc,q]at C;have K:=ab (show H=(T++(fj size x).take (size - 1)).length by rw [<- q,<- fc,cz];exact I);go_roundw;(case rel=>exact⟨1,_,_,_,by omega,by first | rfl | go_num,rfl,K,C,J⟩);case measure=>simp [intOf]);(· have q:=ab (show(fj size x).take (size - (2+1))++[Go.Proofs.YtmmoenkmicimcaaGreatDoor.u8 (x/65536)]=(fj size x).take (size - 2)by have h:=sW size x 2 (by omega);rw [show(256:Int)^2=65536 from rfl]at h;exact h);simp only [Int.cast_ofNat_Int];go_wp2_with(refine lM (ys:=[Go.Proofs.YtmmoenkmicimcaaGreatDoor.u8 (x/65536)]) (w0:=w) (G.ext (F _)) (Rd.oneZ wr (x/65536)) (N.tr (F _)) (by rw [List.length_singleton];omega) (by simp;omega) rfl rfl rfl rfl ?_;intro Y H c7 w7 I C J g7);rw [fc,q]at C;have K:=ab (show H=(T++(fj size x).take (size - 2)).length by rw [<- q,<- fc,cz];exact I);go_roundw;(case rel=>exact⟨2,_,_,_,by omega,by first | rfl | go_num,rfl,K,C,J⟩);case measure=>simp [intOf]);· have q:=ab (show(fj size x).take (size - (3+1))++[Go.Proofs.YtmmoenkmicimcaaGreatDoor.u8 (x/16777216)]=(fj size x).take (size - 3)by have h:=sW size x 3 (by omega);rw [show(256:Int)^3=16777216 from rfl]at h;exact h);simp only [Int.cast_ofNat_Int];go_wp2_with(refine lM (ys:=[Go.Proofs.YtmmoenkmicimcaaGreatDoor.u8 (x/16777216)]) (w0:=w) (G.ext (F _)) (Rd.oneZ wr (x/16777216)) (N.tr (F _)) (by rw [List.length_singleton];omega) (by simp;omega) rfl rfl rfl rfl ?_;intro Y H c7 w7 I C J g7);rw [fc,q]at C;have K:=ab (show H=(T++(fj size x).take (size - 3)).length by rw [<- q,<- fc,cz];exact I);go_roundw;(case rel=>exact⟨3,_,_,_,by omega,by first | rfl | go_num,rfl,K,C,J⟩);case measure=>simp [intOf]);· obtain rfl:k=l.length:=(by omega);rw [List.take_length]at Q O;clear hA;go_wp2_with fail;go_ret;exact⟨_,_,_,rfl,O,Q,U⟩
end Go.Proofs.YtmmoenkmicimcaaGreatDoor
