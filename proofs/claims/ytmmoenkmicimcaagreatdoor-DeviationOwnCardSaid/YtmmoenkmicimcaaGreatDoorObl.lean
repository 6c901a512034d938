import Derived.Test.YtmmoenkmicimcaaGreatDoorObj
import Derived.Test.YtmmoenkmicimcaaGreatDoorObe
namespace Go.Proofs.YtmmoenkmicimcaaGreatDoor
open Go.RowKit
set_option linter.unusedVariables false
set_option maxRecDepth 100000
def fI(l:List Int)(n:Int):List Int:=(l.filter fun x=>decide (x<n))++n::(l.filter fun x=>decide (n<x))
def pQ(l:List Int)(n:Int):List Int:=l.filter fun x=>decide (x<n)
def jf(l:List Int)(n:Int):List Int:=l.filter fun x=>decide (n<x)
theorem QW {l:List Int}{n y:Int}{k:Nat}(h:l[k]?=some y):pQ (l.take (k+1)) n=if y<n then pQ (l.take k) n++[y]else pQ (l.take k) n:=by
 obtain⟨C,rfl⟩:=aq.1 h;unfold pQ;rw [List.take_succ_eq_append_getElem C,List.filter_append];by_cases q:l[k]<n;· simp [q]
 · simp [q]
theorem VG {l:List Int}{n y:Int}{k:Nat}(h:l[k]?=some y):jf (l.take (k+1)) n=if n<y then jf (l.take k) n++[y]else jf (l.take k) n:=by
 obtain⟨C,rfl⟩:=aq.1 h;unfold jf;rw [List.take_succ_eq_append_getElem C,List.filter_append];by_cases q:n<l[k];· simp [q]
 · simp [q]
theorem VH(l:List Int)(n:Int)(k:Nat):(pQ (l.take k) n).length<=l.length:=dm (List.length_filter_le _ _) (List.length_take_le' _ _)
theorem ZI(l:List Int)(n:Int)(k:Nat):(jf (l.take k) n).length<=l.length:=dm (List.length_filter_le _ _) (List.length_take_le' _ _)
theorem ZO(l:List Int)(n:Int):fI l n=(pQ (l.take l.length) n++[n])++jf (l.take l.length) n:=by unfold fI pQ jf;rw [List.take_length];simp
theorem AO(w:World):∃wz,wz=w.alloc (.cells (im).toArray 50)/\Ext w wz/\aV wz w.heap.size dG:=⟨_,rfl,(aa _ _).alloc (bh _) _,aA w _⟩
theorem F4(w:World)(x:Int):Rd (w.alloc (.cells #[.int .i64 x] 3)) (.slice (some ⟨w.heap.size,0,none⟩) 1 1) [.int .i64 x]:=by have:=RdK.lit w 1 #[.int .i64 x] 3 1 rfl (by unfold maxLen;omega);exact RdK.r1 this
theorem aV.put_V {w:World}{g:Nat}{x:AB}(h:aV w g x)(v:Value):aV (w.setCell ⟨g,30,none⟩ v) g {x with V:=v}:=by have l:=aG h 30 v;simp only [bz,bu,bt]at l;exact l
theorem aV.put_li {w:World}{g:Nat}{x:AB}(h:aV w g x)(v:Int):aV (w.setCell ⟨g,29,none⟩ (.int .i64 v)) g {x with li:=v}:=by have l:=aG h 29 (.int .i64 v);simp only [bz,bu,bt]at l;exact l
theorem MN(l:List Int)(x:Int):l.map (Value.int .i64)++[.int .i64 x]=(l++[x]).map (Value.int .i64):=by simp
def jq:List Nat:=[88]
theorem a0U:88∈jq:=ah.2 rfl
def VI(B:Nat):aM:=fun v w=>∃g,v=.pointer (some ⟨g,0,none⟩)/\B<=g/\mM w g 88 8
theorem pR(B:Nat)(S:List Nat)(G:Nat->Prop):(RG S G).stable (VI B):=fun v w w' r⟨g,l,q,C⟩=>⟨g,l,q,C.rg r⟩
theorem Own.rgs {w w':World}{B:Nat}{e:TypeId}{v:Value}{xs:List Value}{S:List Nat}{G:Nat->Prop}(h:Own w B e v xs)(r:dp S G w w')(q:e∉S):Own w' B e v xs:=by
 obtain⟨A,n,c,rfl,l,h | ⟨g,C,rfl,F,hg,H⟩⟩:=h;· exact⟨A,n,c,rfl,l,.inl h⟩
 · exact⟨_,n,c,rfl,l,.inr ⟨g,C,rfl,F,r.other hg q,H⟩⟩
def GRs(B:Nat)(r:RV)(l:List Int):aM:=fun v w=>∃A n c,v=gk r (.slice A n c)/\Own w B 3 (.slice A n c) (l.map (Value.int .i64))
theorem AP(B:Nat)(r:RV)(l:List Int)(G:Nat->Prop):(RG jq G).stable (GRs B r l):=fun v w w' q⟨A,n,c,C,F⟩=>⟨A,n,c,C,F.rgs q (by decide)⟩
def GRk(B:Nat)(r:RV)(k:Int):aM:=fun v w=>∃A n c,v=.tuple #[gk r (.slice A n c),.int .i64 k]/\Own w B 3 (.slice A n c) (r.ser.map (Value.int .i64))
theorem AQ(B:Nat)(r:RV)(k:Int)(G:Nat->Prop):(RG jq G).stable (GRk B r k):=fun v w w' q⟨A,n,c,l,C⟩=>⟨A,n,c,l,C.rgs q (by decide)⟩
theorem JG(W:World):(Instr.alloc 88 true (.tuple #[])).run Tryz.prog W=.ok (.pointer (some ⟨W.heap.size,0,none⟩)) (W.alloc (.cells #[.string ⟨#[]⟩,.int .i64 0,.int .i64 0,.int .i64 0,.slice none 0 0,.int .i64 0,.int .i64 0,.int .i64 0] 88)):=by go_simp
theorem AT(r:RV)(A:Option Addr)(n c:Nat):(jA r (.slice A n c)).all (·.oneCell')=true:=by simp [jA,Value.oneCell']
theorem VJ {w:World}{g:Nat}(h:mM w g 88 8)(r:RV)(A:Option Addr)(n c:Nat): ∃w',(Instr.storeAt 88 (.pointer (some ⟨g,0,none⟩)) (gk r (.slice A n c))).run Tryz.prog w=.ok () w'/\dF w' g r (.slice A n c)/\∀G:Nat->Prop,G g->dp [88] G w w':=by obtain⟨F,l,q⟩:=h;exact⟨_,dI (cells:=jA r (.slice A n c)) l fW q (AT r A n c),aT l,fun G C=>dp.setRow l (ah.2 rfl) C q.symm⟩
section
open Gd (eC)
variable {P:Program}{r:Gt.Rl}{ops:Array Oper}{Q:Exit->Act->World->Prop}{w0:World}{R:Act->World->Prop}{ss:List (Nat × aM)}
theorem Gt.wpX_allocR8 {o:Oper}{rest:List Oper}{a:Act}{l:List (Nat×aM)}{d:Nat}(B:Nat)(q:∀m:r.Lt w0,B<=m.1.heap.size)(C:r.stable (VI B))(hg:eC ops o a l)(F:o.dst=some d)(G:Nat.blt d a.tmps.size=true)(ho:o.op=.alloc 88)(H:(bI o).all (fun t=>Nat.blt t a.tmps.size)=true)(I:Gt.wpX r Tryz.prog ops Q w0 R ss rest (a.put (some d) undef) ((d,VI B)::l)):Gt.wpX r Tryz.prog ops Q w0 R ss (o::rest) a l:=Gt.dX hg (VI B) C (fun _=>Instr.alloc 88 true (.tuple #[])) F G (by unfold bC;rw [ho]) H (fun f=>by unfold execOp;simp only [ho]) (fun m f J=>⟨_,_,JG m.1,r.dxe ((aa _ _).alloc (bh _) _),_,rfl,q m,_,aA m.1 _,rfl⟩) I
theorem Gt.wpX_movU:type_of% @Gt.lD:=@Gt.lD
theorem Gt.wpX_asgU:type_of% @Gt.lK:=@Gt.lK
theorem Gt.wpX_rowU {o:Oper}{rest:List Oper}{a:Act}{l:List (Nat×aM)}{d:Nat}(hg:eC ops o a l){ty t:TypeId}{x:Operand}(g:Nat)(cs:Array Value){fr:Nat×Nat}{q:TypeDesc}(C:o.dst=some d)(F:Nat.blt d a.tmps.size=true)(ho:o.op=.load ty x)(G:(bI o).all (fun t=>Nat.blt t a.tmps.size)=true)(H:oE a x=true)(I:∀f,ja a l f x=.pointer (some ⟨g,0,none⟩))(J:∀m:r.Lt w0,m.1.heap[g]?=some (.cells cs t fr))(K:P.underlying ty=some q)(N:(match q with | .struct _ | .array _ _=>true | _=>false)=true)(hi:(P.info? ty).map (·.size)=some cs.size)(O:Gt.wpX r P ops Q w0 R ss rest (a.put (some d) undef) ((d,fun v _=>v=.agg cs)::l)):Gt.wpX r P ops Q w0 R ss (o::rest) a l:=Gt.dX hg (fun v _=>v=.agg cs) (Gt.Rl.stable_eq _ _) (fun _=>Instr.loadAt ty (.pointer (some ⟨g,0,none⟩))) C F (by unfold bC;rw [ho]) G (fun f=>by unfold execOp;simp only [ho];rw [Gt.fK H,I f]) (fun m f U=>⟨_,_,by simp only [Instr.loadAt,Instr.sureAddr,Sem.run_bind,Sem.run_pure,Result.andThen_ok,run_loadVar_row m.1 g t ty cs fr q (J m) K N hi],r.dxe (aa _ _),rfl⟩) O
end
theorem JH(W:World)(st:List UInt8)(num day nxt iss:Int)(A:Option Addr)(n c:Nat):(Instr.build 88 [(0,.string (aD st)),(1,.int .i64 num),(2,.int .i64 day),(3,.int .i64 nxt),(4,.slice A n c),(5,.int .i64 iss)].toArray).run Tryz.prog W=.ok (gk ⟨st,num,day,nxt,[],iss,0,0⟩ (.slice A n c)) W:=by unfold gk;go_simp
theorem Own.safeK {w:World}{B:Nat}{e:TypeId}{v:Value}{xs:List Value}(h:Own w B e v xs):cG w 0 e 1 v xs:=by
 refine⟨h.rd.k1,fun A n c l C=>?_⟩;obtain⟨F,G,H,rfl,_,h | ⟨g,I,rfl,_,hg,_⟩⟩:=h;· injection l with _ q _;omega
 · injection l with q _ _;exact⟨g,0,q.symm,.inr ⟨_,_,hg⟩⟩
def a1T(w:World)(x:AB)(C:List Int)(r:RV)(k:Int)(e:Ending)(w':World):Prop:=∃(A:Option Addr)(n c:Nat)(l:Option Addr)(q c2:Nat),e=.returned (.tuple #[gt {x with V:=.slice A n c,li:=x.li+1},gk r (.slice l q c2),.int .i64 k])/\fh w' .i64 (.slice A n c) C/\fh w' .i64 (.slice l q c2) r.ser/\Ext w w'/\cG w' 0 3 1 (.slice A n c) (bH C)/\Own w' w.heap.size 3 (.slice l q c2) (bH r.ser)
structure RkZ (w wr:World) (x:AB):Prop where
 a:aV wr w.heap.size x
 z:aV wr (w.heap.size+1) dG
 r:dF wr (w.heap.size+1+1) hO (.slice none 0 0)
theorem RkZ.below {w wr wx:World}{x:AB}{B:Nat}(h:RkZ w wr x)(e:Below B wr wx)(l:w.heap.size+1+1<B):RkZ w wx x:=⟨(e.block _ (by omega)).trans h.a,(e.block _ (by omega)).trans h.z,(e.block _ (by omega)).trans h.r⟩
theorem RkZ.ext {w wr wx:World}{x:AB}(h:RkZ w wr x)(e:Ext wr wx):RkZ w wx x:=⟨h.a.ext e,h.z.ext e,h.r.ext e⟩
def auT:List Nat:=[50,88]
theorem a0V:50∈auT:=fm
theorem a0W:88∈auT:=io _ (ah.2 rfl)
def auG(w:World)(k:Nat):Prop:=k=w.heap.size+1\/k=w.heap.size+1+1
def C4(B:Nat)(r:RV):aM:=fun v w=>∃g A n c,v=.pointer (some ⟨g,0,none⟩)/\B<=g/\dF w g r (.slice A n c)/\Own w B 3 (.slice A n c) (r.ser.map (Value.int .i64))
theorem C4.ext {B:Nat}{r:RV}(v:Value)(w w':World)(e:Ext w w')(h:C4 B r v w):C4 B r v w':=by obtain⟨g,A,n,c,l,q,C,F⟩:=h;exact⟨g,A,n,c,l,q,C.ext e,F.ext e⟩
theorem C4.st {B:Nat}{r:RV}{G:Nat->Prop}(T:Nat)(l:T≠88)(v:Value)(w w':World)(e:(RG jq G).st T w w')(h:C4 B r v w):C4 B r v w':=absurd (ah.1 e.1) l
theorem VK {B:Nat}{k:Int}{r:RV}{v:Value}{w w':World}{e:Ending}(h:a0h w v (kY k r) (qP k r) e w')(o:Own w B 3 v (r.ser.map (Value.int .i64)))(K:r.ser≠[]):∃u,e=.returned u/\Ext w w'/\GRk B (kY k r) (qP k r) u w':=by
 obtain⟨A,n,c,rfl,N,x,l⟩:=h;refine⟨_,rfl,x,A,n,c,rfl,?_⟩;obtain⟨O,Q,U,H,I,-⟩:=N.ints;injection H with C F G;subst C F G;rcases l with l | l;· subst l;obtain⟨O,Q,U,H,J,-⟩:=id o;injection H with C F G;subst C F G;rw [List.length_map]at J;by_cases q:fy r=0/\sK k=0;(· have:kY k r=IB r (sE k (iA r)) (sS k (iA r)):=ax q;rw [this];exact o.ext x);· have:kY k r=hO:=ao q;rw [this]at I;rw [I]at J;exact absurd (ig J.symm) K
 · injection l with C F G;subst C F G;rw [ig I.symm];exact Own.nil_ _ _ _
def ie:List Nat:=[50,86]
theorem VL:50∈ie:=fm
theorem VM:86∈ie:=io _ (ah.2 rfl)
structure PbZ (w wr:World) (x:AB):Prop where
 a:aV wr w.heap.size x
 z:aV wr (w.heap.size+1) dG
 r:dB wr (w.heap.size+1+1) gJ (.slice none 0 0)
theorem PbZ.ext {w wr wx:World}{x:AB}(h:PbZ w wr x)(e:Ext wr wx):PbZ w wx x:=⟨h.a.ext e,h.z.ext e,h.r.ext e⟩
theorem MO(k:Int)(m:MA):(m8 k m).roots=m.roots\/(m8 k m).roots=[]:=by
 unfold m8;split;· exact .inl rfl
 · exact .inr rfl
theorem RdK.none_ {w w':World}{k:Nat}{v:Value}(G:0<k)(h:RdK w k v []):RdK w' k v []:=by
 obtain⟨A,n,c,rfl,l,C,F,H⟩:=h;have I:n=0:=by rcases Nat.mul_eq_zero.1 l with q | q;(· exact q);· omega
 exact⟨A,n,c,rfl,l,C,F,fun q=>by omega⟩
theorem VN {F C:World}{s v:Value}{m:MA}{l:List NC}(h:RdN F s m.roots)(G:s=v\/s=.slice none 0 0)(H:RdN C v l)(q:m.roots=l\/m.roots=[]):RdN C s m.roots:=by
 by_cases h0:m.roots=[];· have h:RdK F 11 s (aC m.roots):=h;show RdK C 11 s (aC m.roots);rw [h0]at h⊢;exact RdK.none_ (by decide) h
 · rcases q with q | q;(· rcases G with rfl | rfl;(· rw [q];exact H);· obtain⟨A,n,c,e,I,_⟩:=h.at_;injection e with K J N;subst J;exact absurd (ig I.symm) h0);· exact absurd q h0
def a1U(w:World)(x:AB)(v:Value)(m:MA)(k:Int)(e:Ending)(w':World):Prop:=∃A n c,e=.returned (.tuple #[gt {x with li:=x.li+1},jm m (.slice A n c),.int .i64 k])/\RdN w' (.slice A n c) m.roots/\Ext w w'/\(.slice A n c=v\/ .slice A n c=Value.slice none 0 0)
open Gd (eC mC)
def ZP(B:Nat):aM:=fun v w=>∃g,v=.pointer (some ⟨g,0,none⟩)/\B<=g/\mM w g 86 17
theorem pS(B:Nat)(S:List Nat)(G:Nat->Prop):(RG S G).stable (ZP B):=fun v w w' r⟨g,l,q,C⟩=>⟨g,l,q,C.rg r⟩
theorem F5(W:World):(Instr.alloc 86 true (.tuple #[])).run Tryz.prog W=.ok (.pointer (some ⟨W.heap.size,0,none⟩)) (W.alloc (.cells ft 86)):=by go_simp
def C5(B:Nat)(t:MA)(u:Value):aM:=fun v w=>∃g,v=.pointer (some ⟨g,0,none⟩)/\B<=g/\dB w g t u
theorem C5.ext {B:Nat}{t:MA}{u:Value}(v:Value)(w w':World)(e:Ext w w')(h:C5 B t u v w):C5 B t u v w':=by obtain⟨g,l,q,C⟩:=h;exact⟨g,l,q,C.ext e⟩
theorem C5.st {B:Nat}{t:MA}{u:Value}{G:Nat->Prop}(T:Nat)(l:T≠86)(v:Value)(w w':World)(e:(RG [86] G).st T w w')(h:C5 B t u v w):C5 B t u v w':=absurd (ah.1 e.1) l
def C6(B:Nat)(t:RV)(u:Value):aM:=fun v w=>∃g,v=.pointer (some ⟨g,0,none⟩)/\B<=g/\dF w g t u
theorem C6.ext {B:Nat}{t:RV}{u:Value}(v:Value)(w w':World)(e:Ext w w')(h:C6 B t u v w):C6 B t u v w':=by obtain⟨g,l,q,C⟩:=h;exact⟨g,l,q,C.ext e⟩
theorem C6.st {B:Nat}{t:RV}{u:Value}{G:Nat->Prop}(T:Nat)(l:T≠88)(v:Value)(w w':World)(e:(RG [88] G).st T w w')(h:C6 B t u v w):C6 B t u v w':=absurd (ah.1 e.1) l
section
variable {P:Program}{r:Gt.Rl}{ops:Array Oper}{Q:Exit->Act->World->Prop}{w0:World}{R:Act->World->Prop}{ss:List (Nat × aM)}
theorem Gt.wpX_allocM17 {o:Oper}{rest:List Oper}{a:Act}{l:List (Nat×aM)}{d:Nat}(B:Nat)(q:∀m:r.Lt w0,B<=m.1.heap.size)(C:r.stable (ZP B))(hg:eC ops o a l)(F:o.dst=some d)(G:Nat.blt d a.tmps.size=true)(ho:o.op=.alloc 86)(H:(bI o).all (fun t=>Nat.blt t a.tmps.size)=true)(I:Gt.wpX r Tryz.prog ops Q w0 R ss rest (a.put (some d) undef) ((d,ZP B)::l)):Gt.wpX r Tryz.prog ops Q w0 R ss (o::rest) a l:=Gt.dX hg (ZP B) C (fun _=>Instr.alloc 86 true (.tuple #[])) F G (by unfold bC;rw [ho]) H (fun f=>by unfold execOp;simp only [ho]) (fun m f J=>⟨_,_,F5 m.1,r.dxe ((aa _ _).alloc (bh _) _),_,rfl,q m,_,aA m.1 _,rfl⟩) I
theorem Gt.wpX_midK {o:Oper}{rest:List Oper}{a:Act}{l:List (Nat×aM)}{d:Nat}(hg:eC ops o a l)(g i:Nat)(cs:List Value){ty:TypeId}{x:Operand}{ds:TypeDesc}(q:o.dst=some d)(C:Nat.blt d a.tmps.size=true)(ho:o.op=.load ty x)(F:a.eval x=.pointer (some ⟨g,i,none⟩))(G:gO o l=true)(H:∀m:r.Lt w0,m.1.rangeAt g i cs)(I:P.underlying ty=some ds)(J:ds.isRow=true)(hi:(P.info? ty).map (·.size)=some cs.length)(N:Gt.wpX r P ops Q w0 R ss rest (a.put (some d) (.agg cs.toArray)) l):Gt.wpX r P ops Q w0 R ss (o::rest) a l:=Gt.iB hg (.agg cs.toArray) q C (by unfold bC;rw [ho]) G (fun m K O=>by unfold Oper.wp execOp;simp only [ho,F,Sem.run_bind,run_loadAt_mid m.1 g i ty cs ds (H m) I J hi,Result.andThen_ok,Sem.run_pure];exact O _ _ (by rw [q];rfl) ⟨r.dxe (aa _ _),by rw [q,bF (cQ C)]⟩) N
end
structure SsI (w wr:World) (s0 s1 s2 s3 s4 t0 t1 t2 t3 t4:dd):Prop where
 ext:Ext w wr
 s:wr.heap[w.heap.size]?=some (.cells (aN s0 s1 s2 s3 s4) 31 (0,0))
 t:wr.heap[w.heap.size+1]?=some (.cells (aN t0 t1 t2 t3 t4) 31 (0,0))
theorem SsI.tr {w wr wx:World}{s0 s1 l q C t0 t1 t2 t3 t4:dd}(h:SsI w wr s0 s1 l q C t0 t1 t2 t3 t4)(e:Ext wr wx):SsI w wx s0 s1 l q C t0 t1 t2 t3 t4:=⟨h.ext.tr e,(e.block _ (a9 h.s)).trans h.s,(e.block _ (a9 h.t)).trans h.t⟩
theorem VO(w:World)(s0 s1 l q C t0 t1 t2 t3 t4:dd):∃wz,wz=(w.alloc (fp s0 s1 l q C)).alloc (.cells #[.slice t0.1 t0.2.1 t0.2.2,.slice t1.1 t1.2.1 t1.2.2,.slice t2.1 t2.2.1 t2.2.2,.slice t3.1 t3.2.1 t3.2.2,.slice t4.1 t4.2.1 t4.2.2] 31)/\SsI w wz s0 s1 l q C t0 t1 t2 t3 t4:=⟨_,rfl,((aa _ _).alloc (bh _) _).alloc (by simp) _,heap_alloc2_old w _ _,heap_alloc2_new w _ _⟩
theorem vJ {s:dd}{A:Option Addr}{n c:Nat}(h:cd s=.slice A n c):s=(A,n,c):=by obtain⟨a,b,d⟩:=s;unfold cd at h;injection h with l q C;simp only at l q C;rw [l,q,C]
set_option maxHeartbeats 16000000 in
theorem MP (x:AB) (l:List NC) (v:Value) (day:Int) (w:World) (hv:RdN w v l) (hs:smL l) (hg:df x.ls) (a1:x.st.length<=maxLen) (cI:-1000000<=x.li) (cJ:x.li<=1000000) (h1:kI x) (E:dY w 0) :
 Calls Tryz.prog 67 #[gt x,v,.int .i64 day] w (a1U w x v (m8 x.lsec ⟨x.st,x.li,day,l,x.ls,0,0⟩) (EK x.lsec ⟨x.st,x.li,day,l,x.ls,0,0⟩)):=by
 obtain ⟨st,R,L,S,sg,ls,ssec,lsec,G,li,V,D,Z⟩:=x
 simp only at hg a1 cI cJ
 have a8:=ab (fun b0 (e:Ext w b0)=>BV lsec ⟨st,li,day,l,ls,0,0⟩ v b0 (RdK.ext hv e) hs hg a1 (E.below e))
 have HV:=ab hv
 obtain ⟨AV,nV,cV,rfl,cL,-⟩:=hv.at_
 subst cL
 obtain ⟨wa,a0,ea,TA⟩:=pP w ⟨st,R,L,S,sg,ls,ssec,lsec,G,li,V,D,Z⟩
 obtain ⟨wb,a2,eb,TB⟩:=AO wa
 obtain ⟨wz,b3,ez,TZ⟩:=tP wb gJ (.slice none 0 0)
 dsimp only at a0
 have a3:wa.heap.size=w.heap.size+1:=by rw [a0];simp
 have b4:wb.heap.size=w.heap.size+1+1:=by rw [a2];simp [a3]
 rw [a3] at TB
 rw [b4] at TZ
 have EZ:=ab (ea.tr (eb.tr ez))
 have C:=ab (show PbZ w wz ⟨st,R,L,S,sg,ls,ssec,lsec,G,li,V,D,Z⟩ from ⟨(TA.ext eb).ext ez,TB.ext ez,TZ⟩)
 have N:=ab h1
 have b5:wz=wb.alloc (.cells ft 86):=b3
 clear b3
 clear hv hs hg ea eb ez TA TB TZ a3 b4 h1 E a1
 unfold gt
 go_in
 go_upto_region 1 with fail
 rw [<- a0,<- a2,<- b5]
 clear a0 a2 b5
 have c0:=C.a.c0
 have c15:=C.a.c15
 have c16:=C.a.c16
 have c17:=C.a.c17
 have c18:=C.a.c18
 have c19:=C.a.c19
 have c20:=C.a.c20
 have c21:=C.a.c21
 have c22:=C.a.c22
 have c23:=C.a.c23
 have c24:=C.a.c24
 have c25:=C.a.c25
 have c27:=C.a.c27
 have c29:=C.a.c29
 have cl:=C.a.lt
 go_wp2_with fail
 refine (a8 wz EZ).mono ?_
 rintro e w1 ⟨H,I,c5,rfl,r5,b1,b6⟩
 generalize b7:m8 lsec ⟨st,li,day,l,ls,0,0⟩=F at *
 generalize EK lsec ⟨st,li,day,l,ls,0,0⟩=kk at *
 have cR:=ab (show F.roots=l \/ F.roots=[] by rw [<- b7];exact MO lsec ⟨st,li,day,l,ls,0,0⟩)
 clear b7
 clear c0 c15 c16 c17 c18 c19 c20 c21 c22 c23 c24 c25 c27 c29 cl
 obtain ⟨wm,b8,em,tm⟩:=tP w1 F (.slice H I c5)
 unfold jm aS
 go_upto_region 2 with fail
 rw [<- b8]
 clear b8
 obtain ⟨g,a4⟩:∃ g,w1.heap.size=g:=⟨_,rfl⟩
 rw [a4] at tm
 try rw [a4]
 have J:=ab (C.ext (b1.tr em))
 have d4:w.heap.size+1+1<g:=by have:=(C.ext b1).r.lt;omega
 have XM:=ab (EZ.tr (b1.tr em))
 have b9:=ab tm
 have a5:=ab (And.intro r5 b6)
 clear b1 em tm a4 C EZ r5 b6 a8
 have c29:=J.a.c29
 have cl:=J.a.lt
 have cS:=J.a.frozen 29
 have wl:IntKind.i64.wrap (li+1)=li+1:=ag _ (by omega)
 obtain ⟨O,U⟩:∃ O,O=wm.setCell ⟨w.heap.size,29,none⟩ (.int .i64 (li+1)):=⟨_,rfl⟩
 have ZT:=ab (show PbZ w O ⟨st,R,L,S,sg,ls,ssec,lsec,G,li+1,V,D,Z⟩ by
  rw [U]
  exact ⟨aV.put_li (x:=⟨st,R,L,S,sg,ls,ssec,lsec,G,li,V,D,Z⟩) J.a (li+1),J.z.other (by omega),J.r.other (by omega)⟩)
 have XT:=ab (show Ext w O by rw [U];exact aI XM (bh _))
 have cU:=ab (show dB O g F (.slice H I c5) by rw [U];exact b9.other (by omega))
 go_upto_region 3 with fail
 rw [<- U]
 clear U c29 cl cS J b9 XM
 have cX:=ab (cN (x:=⟨st,R,L,S,sg,ls,ssec,lsec,G,li+1,V,D,Z⟩) ⟨N.R,N.L,N.S,N.V,N.D,N.Z⟩)
 have d0:=ab (nY F (.slice H I c5) rfl)
 refine Gt.aL (r:=RG ie (auG w)) 6 (by kernel_rfl) (by kernel_rfl) ?_
 simp only [eq,dw,ej,eh]
 intro wq bB
 have Q:∀ m:(RG ie (auG w)).Lt wq,dp ie (auG w) O m.1:=fun m=>dp.tr bB m.2
 refine Gt.wpX_rowU (Gd.gR rfl) w.heap.size (aW ⟨st,R,L,S,sg,ls,ssec,lsec,G,li+1,V,D,Z⟩) rfl rfl rfl rfl rfl (fun _=>rfl) (fun m=>(Q m).keep ZT.a.row (fun q=>by rcases q with q | q <;> omega)) Tryz.underlying50 rfl bL ?_
 simp only [Act.put,bz,bu,bt]
 refine Gt.wpX_rowU (Gd.gR rfl) g (aS F (.slice H I c5)).toArray rfl rfl rfl rfl rfl (fun _=>rfl) (fun m=>(Q m).keep cU.row (fun q=>by rcases q with q | q <;> omega)) Tryz.underlying86 rfl d9 ?_
 simp only [Act.put,bz,bu,bt]
 repeat (refine Gt.aB rfl fun a6 W=>?_;go_big_quiet_op;refine W _ ?_;clear W a6)
 refine Gt.dH (Gd.gR rfl) (fun _ w'=>aV w' (w.heap.size+1) ⟨st,R,L,S,sg,ls,ssec,lsec,G,li+1,V,D,Z⟩) (fun _=>.pointer (some ⟨w.heap.size+1,0,none⟩)) (fun f=>f 30) rfl rfl rfl rfl rfl (fun _=>rfl) (fun _=>rfl) (fun _ _ _ e h=>aV.ext h e) (fun T hT _ _ _ e h=>e.2.other h (fun q=>hT (ah.1 q).symm)) (fun m f X=>?_) ?_
 · have e5:f 30=.agg (aW ⟨st,R,L,S,sg,ls,ssec,lsec,G,li+1,V,D,Z⟩):=X 30 _ rfl rfl
   rw [e5]
   obtain ⟨d1,K,Y⟩:=mM.rg (n:=33) ⟨_,ZT.z.row,rfl⟩ (Q m)
   exact ⟨_,dI (cells:=aW ⟨st,R,L,S,sg,ls,ssec,lsec,G,li+1,V,D,Z⟩) K bL Y cX,⟨VL,dp.setRow K (ah.2 rfl) (.inl rfl) Y.symm⟩,aT K⟩
 refine Gt.dH (Gd.gR rfl) (fun _ w'=>dB w' (w.heap.size+1+1) F (.slice H I c5)) (fun _=>.pointer (some ⟨w.heap.size+1+1,0,none⟩)) (fun f=>f 31) rfl rfl rfl rfl rfl (fun _=>rfl) (fun _=>rfl) (fun _ _ _ e h=>dB.ext h e) (fun T hT _ _ _ e h=>e.2.other h (fun q=>hT (ah.1 q).symm)) (fun m f X=>?_) ?_
 · have e5:f 31=.agg (aS F (.slice H I c5)).toArray:=X 31 _ rfl rfl
   rw [e5]
   obtain ⟨d1,K,Y⟩:=mM.rg (n:=17) ⟨_,ZT.r.row,rfl⟩ (Q m)
   exact ⟨_,dI (cells:=(aS F (.slice H I c5)).toArray) K d9 Y d0,⟨VM,dp.setRow K (ah.2 rfl) (.inr rfl) Y.symm⟩,aT K⟩
 repeat (refine Gt.aB rfl fun a6 W=>?_;go_big_quiet_op;refine W _ ?_;clear W a6)
 refine Gt.wpX_endG rfl (fun m f X a7=>?_)
 have bS:dB m.1 (w.heap.size+1+1) F (.slice H I c5):=a7 _ fm
 have cD:aV m.1 (w.heap.size+1) ⟨st,R,L,S,sg,ls,ssec,lsec,G,li+1,V,D,Z⟩:=a7 _ (io _ fm)
 simp only [bQ]
 simp only [Act.put,bz,bu,bt]
 have d2:=ab cD
 have d3:=ab bS
 have XE:=ab (show Ext w m.1 from XT.trans ((Q m).below (B:=w.heap.size+1) (fun k q=>by rcases q with q | q <;> omega) ZT.a.lt |>.mono (Nat.le_succ _)))
 have R5:=ab (show RdN m.1 (.slice H I c5) F.roots from VN a5.1 a5.2 (RdK.ext HV XE) cR)
 clear a7 X bB Q cD bS
 generalize m.1=we at *
 show wpList _ _ _ _ _ _
 go_wp2_with fail
 refine az (v:=.tuple #[.agg (aW ⟨st,R,L,S,sg,ls,ssec,lsec,G,li+1,V,D,Z⟩),.agg (aS F (.slice H I c5)).toArray,.int .i64 kk]) ?_ rfl ⟨H,I,c5,rfl,R5,XE,a5.2⟩
 simp [results,Tryz.results67,asAddr,run_loadVar_row we (w.heap.size+1) 50 50 (aW ⟨st,R,L,S,sg,ls,ssec,lsec,G,li+1,V,D,Z⟩) (0,0) _ d2.row Tryz.underlying50 rfl bL,run_loadVar_row we (w.heap.size+1+1) 86 86 (aS F (.slice H I c5)).toArray (0,0) _ d3.row Tryz.underlying86 rfl d9]
set_option maxHeartbeats 16000000 in
theorem MQ (x:AB) (l C:List Int) (k num day:Int) (w:World) (hV:fh w .i64 x.V l) (hS:fh w .i64 x.S C) (hk:C[C.length - 1]?=some k) (h9:C.length<=100) (hl:l.length<=1000) (cJ:x.st.length<=maxLen) (d0:0<=day) (d1:day<=1000000)
 (f5:0<=x.li) (e3:x.li<=1000000) (h1:kI x) (E:dY w 0) :
 Calls Tryz.prog 69 #[gt x,.int .i64 num,.int .i64 day] w (a1T w x (fI l num) (kY k ⟨x.st,x.li,day,day+90,fI l num,(C.length:Int),0,0⟩) (qP k ⟨x.st,x.li,day,day+90,fI l num,(C.length:Int),0,0⟩)):=by
 obtain ⟨st,R,L,S,sg,ls,ssec,lsec,O,li,V,D,Z⟩:=x
 simp only at hV hS cJ f5 e3
 obtain ⟨AV,nV,cV,rfl,f6,hA,f7,e4⟩:=hV.ints
 obtain ⟨AS,nS,N,rfl,f8,hC,g0,e6⟩:=hS.ints
 subst f6 f8
 obtain ⟨wa,b8,ea,TA⟩:=pP w ⟨st,R,L,.slice AS C.length N,sg,ls,ssec,lsec,O,li,.slice AV l.length cV,D,Z⟩
 obtain ⟨wb,cL,eb,TB⟩:=AO wa
 obtain ⟨wz,b3⟩:∃ wz,wz=wb.alloc (.cells #[.string ⟨#[]⟩,.int .i64 0,.int .i64 0,.int .i64 0,.slice none 0 0,.int .i64 0,.int .i64 0,.int .i64 0] 88):=⟨_,rfl⟩
 have ez:Ext wb wz:=by rw [b3];exact (aa _ _).alloc (bh _) _
 have TZ:dF wz wb.heap.size hO (.slice none 0 0):=by rw [b3];exact dF.new wb hO (.slice none 0 0)
 dsimp only at b8
 have cR:wa.heap.size=w.heap.size+1:=by rw [b8];simp
 have cU:wb.heap.size=w.heap.size+1+1:=by rw [cL];simp [cR]
 have g3:wz.heap.size=w.heap.size+1+1+1:=by rw [b3];simp [cU]
 rw [cR] at TB
 rw [cU] at TZ
 have EZ:=ab (ea.tr (eb.tr ez))
 have RZ:=ab (show RkZ w wz ⟨st,R,L,.slice AS C.length N,sg,ls,ssec,lsec,O,li,.slice AV l.length cV,D,Z⟩ from ⟨(TA.ext eb).ext ez,TB.ext ez,TZ⟩)
 have cX:=ab e4
 have g4:=ab e6
 have g5:=ab hk
 have d2:=ab (show 0<C.length from by have:=(aq.1 hk).1;omega)
 have g6:=ab (fun (u:Value) d4 (e:Ext w d4) (hu:fh d4 .i64 u (fI l num))=>BS k ⟨st,li,day,day+90,fI l num,(C.length:Int),0,0⟩ u d4 hu cJ (E.below e))
 have d5:=ab (ZO l num)
 have H1:=ab h1
 have d6:=ab (VH l num)
 have g7:=ab (ZI l num)
 unfold maxLen at f7 g0
 have HB:=ab (show w.heap.size+1+1<wz.heap.size by omega)
 obtain ⟨B,hB⟩:∃ B,wz.heap.size=B:=⟨_,rfl⟩
 rw [hB] at HB
 have a1:=ab hB
 have c30:=RZ.a.c30
 have cl:=RZ.a.lt
 clear hV hS hk e4 e6 ea eb ez TA TB TZ cR cU g3 h1 E cJ hB
 unfold gt
 go_in
 go_upto_region 3 with fail
 rw [<- b8,<- cL,<- b3]
 clear b8 cL b3 c30 cl
 go_loopw [9,10] (fun s9 si wr=>∃ (k:Nat) (F:Option Addr) (c9:Nat),k<=l.length/\si=.int .i64 (k:Int)/\s9=.slice F (pQ (l.take k) num).length c9/\Hid (Own wr B 3 (.slice F (pQ (l.take k) num).length c9) ((pQ (l.take k) num).map (Value.int .i64)))/\Hid (Below B wz wr)) (fun _ si _=>l.length - (intOf si).toNat)
 case atStart=>exact ⟨0,_,_,de _,rfl,rfl,ab (Own.nil_ _ _ _),ab (aa _ _)⟩
 case round =>
 obtain ⟨k,F,c9,g9,rfl,rfl,a0,X⟩:=hrel
 have Z5:=ab (RZ.below X HB)
 have X5:=ab (show Ext w wr from EZ.trans (X.mono (by have:=EZ.size;have:=a1.out;omega)))
 have c30:=Z5.a.c30
 have cl:=Z5.a.lt
 by_cases hlt:k<l.length
 case neg =>
  obtain rfl:k=l.length:=by omega
  have hd:¬ ((l.length:Int)<(l.length:Int)):=by omega
  clear hlt hd
  have d7:=ab (show Own wr B 3 (.slice F (pQ (l.take l.length) num).length c9) ((pQ (l.take l.length) num).map (Value.int .i64)) from a0.out)
  obtain ⟨P0,b9⟩:∃ P0,pQ (l.take l.length) num=P0:=⟨_,rfl⟩
  have bB:=ab (show P0.length<=1000 by rw [<- b9];have:=d6 l.length;omega)
  rw [b9] at d7 d5
  rw [b9]
  clear b9 a0
  have eA:Ext wr (wr.alloc (.cells #[.int .i64 num] 3)):=(aa _ _).alloc (bh _) _
  have a6:=ab (d7.ext eA)
  have a7:=ab (F4 wr num)
  have XA:=ab (X.alloc (by have:=X.size;have:=a1.out;omega) (.cells #[.int .i64 num] 3))
  go_upto_region 7 with fail
  clear c30 cl eA d7 X X5 Z5
  go_upto_region 9 with (refine jI (B:=B) (w0:=wz) GX a6 a7 (fun u hu=>by rw [ah.1 hu];rfl) XA (by have:=bB.out;simp only [List.length_map,dq,dn];omega) (by have:=bB.out;unfold maxLen;simp only [List.length_map,dq,dn];omega) (by have:=XA.size;have:=a1.out;omega) rfl rfl rfl rfl ?_;intro A8 c8 w8 o8 x8 g8)
  have b4:=ab (show Own w8 B 3 (.slice A8 (P0++[num]).length c8) ((P0++[num]).map (Value.int .i64)) by rw [<- MN,cz];rw [List.length_map] at o8;exact o8)
  have b5:=ab x8
  rw [show P0.length+1=(P0++[num]).length by simp]
  clear o8 x8 g8 a6 a7 XA
  have gA:=ab (show (P0++[num]).length<=1001 by rw [cz];have:=bB.out;simp only [dq,dn];omega)
  generalize P0++[num]=P1 at *
  clear bB
  have e7:=ab (show (P1++jf (l.take 0) num)=P1 from List.append_nil P1)
  go_loopw [9,11] (fun s9 si wr=>∃ (k:Nat) (F:Option Addr) (c9:Nat),k<=l.length/\si=.int .i64 (k:Int)/\s9=.slice F (P1++jf (l.take k) num).length c9/\Hid (Own wr B 3 (.slice F (P1++jf (l.take k) num).length c9) ((P1++jf (l.take k) num).map (Value.int .i64)))/\Hid (Below B wz wr)) (fun _ si _=>l.length - (intOf si).toNat)
  case atStart=>exact ⟨0,_,_,de _,rfl,by rw [e7],by rw [e7];exact b4,b5⟩
  case round =>
  obtain ⟨k,F,c9,g9,rfl,rfl,a0,X⟩:=hrel
  have Z5:=ab (RZ.below X HB)
  have X5:=ab (show Ext w wr from EZ.trans (X.mono (by have:=EZ.size;have:=a1.out;omega)))
  have c30:=Z5.a.c30
  have cl:=Z5.a.lt
  by_cases hlt:k<l.length
  case neg =>
   obtain rfl:k=l.length:=by omega
   have hd:¬ ((l.length:Int)<(l.length:Int)):=by omega
   clear hlt hd
   have d8:=ab (show Own wr B 3 (.slice F (P1++jf (l.take l.length) num).length c9) ((fI l num).map (Value.int .i64)) by rw [d5];exact a0)
   obtain ⟨G,cD⟩:∃ G,(P1++jf (l.take l.length) num).length=G:=⟨_,rfl⟩
   have hD:=ab (show G=(fI l num).length by rw [d5,cD])
   rw [cD] at d8
   rw [cD]
   clear cD a0
   obtain ⟨I,a8⟩:∃ I,I=(wr.setCell ⟨w.heap.size,30,none⟩ (.slice F G c9)):=⟨_,rfl⟩
   have fa:=Z5.a.frozen 30
   have e8:w.heap.size<B:=by have:=HB.out;omega
   have ZS:=ab (show RkZ w I ⟨st,R,L,.slice AS C.length N,sg,ls,ssec,lsec,O,li,.slice F G c9,D,Z⟩ by
    rw [a8]
    exact ⟨aV.put_V (x:=⟨st,R,L,.slice AS C.length N,sg,ls,ssec,lsec,O,li,.slice AV l.length cV,D,Z⟩) Z5.a (.slice F G c9),Z5.z.other (by omega),Z5.r.other (by omega)⟩)
   have dA:=ab (show Own I B 3 (.slice F G c9) ((fI l num).map (Value.int .i64)) by rw [a8];exact d8.setLow e8)
   have XS:=ab (show Ext w I by rw [a8];exact aI X5 (bh _))
   have gS:=ab (show B<=I.heap.size by rw [a8];have:=X.size;have:=a1.out;simp;omega)
   go_upto_region 14 with fail
   rw [<- a8]
   clear a8 fa c30 cl X X5 Z5 d8 cX e8
   have c3:=ZS.a.c3
   have cl:=ZS.a.lt
   go_upto_region 15 with fail
   clear c3 cl
   obtain ⟨Q,U,rfl,eB,eD⟩:=g4 d2
   have eE:C.length - 1<C.length:=by have:=d2.out;omega
   have e0:=eD (C.length - 1) eE
   rw [show C.getD (C.length - 1) 0=k by rw [bj,g5];rfl] at e0
   have e1:=ab (And.intro eB e0)
   clear eD e0 eB eE
   have hE:=d2.out
   have hG:IntKind.i64.wrap ((C.length:Int) - 1)=(C.length:Int) - 1:=ag _ (by omega)
   have hH:(0:Int)<=(C.length:Int) - 1:=by omega
   have e3:(C.length:Int) - 1<(C.length:Int):=by omega
   have hI:((C.length:Int) - 1).toNat=C.length - 1:=by omega
   have wd:IntKind.i64.wrap (day+90)=day+90:=ag _ (by omega)
   refine Gt.aL (r:=RG jq (fun k=>I.heap.size<=k)) 23 (by kernel_rfl) (by kernel_rfl) ?_
   simp only [eq,dw,ej,eh]
   intro wq b6
   have W:∀ m:(RG jq (fun k=>I.heap.size<=k)).Lt wq,dp jq (fun k=>I.heap.size<=k) I m.1:=fun m=>dp.tr b6 m.2
   have LB:∀ m:(RG jq (fun k=>I.heap.size<=k)).Lt wq,Ext I m.1:=fun m=>(W m).below (fun _ h=>h) (bh _)
   have p0:∀ m:(RG jq (fun k=>I.heap.size<=k)).Lt wq,m.1.cell? ⟨w.heap.size,0,none⟩=some (.string (aD st)):=fun m=>(ZS.a.ext (LB m)).c0
   have p3:∀ m:(RG jq (fun k=>I.heap.size<=k)).Lt wq,m.1.cell? ⟨w.heap.size,3,none⟩=some (.slice (some ⟨Q,U,none⟩) C.length N):=fun m=>(ZS.a.ext (LB m)).c3
   have h0:∀ m:(RG jq (fun k=>I.heap.size<=k)).Lt wq,m.1.cell? ⟨w.heap.size,29,none⟩=some (.int .i64 li):=fun m=>(ZS.a.ext (LB m)).c29
   have pk:∀ m:(RG jq (fun k=>I.heap.size<=k)).Lt wq,m.1.cell? ⟨Q,U+(C.length - 1),none⟩=some (.int .i64 k):=fun m=>((XS.tr (LB m)).cell (p:=⟨Q,U+(C.length - 1),none⟩) e1.1).trans e1.2
   have pl:∀ m:(RG jq (fun k=>I.heap.size<=k)).Lt wq,w.heap.size<m.1.heap.size:=fun m=>(ZS.a.ext (LB m)).lt
   have pb:∀ m:(RG jq (fun k=>I.heap.size<=k)).Lt wq,Q<m.1.heap.size:=fun m=>ew e1.1 (XS.tr (LB m)).size
   repeat (refine Gt.aB rfl fun b7 hK=>?_;go_big_quiet_op;refine hK _ ?_;clear hK b7)
   refine Gt.bV (Gd.gR rfl) (GRs B ⟨st,li,day,day+90,fI l num,(C.length:Int),0,0⟩ (fI l num)) (AP _ _ _ _) (fun f=>[(0,.string (aD st)),(1,.int .i64 li),(2,.int .i64 day),(3,.int .i64 (day+90)),(4,.slice F G c9),(5,.int .i64 (C.length:Int))]) rfl rfl rfl rfl rfl (fun _=>rfl) (fun m f H=>?_) ?_
   · exact ⟨_,_,JH m.1 st li day (day+90) (C.length:Int) F G c9,aa _ _,F,G,c9,rfl,dA.ext (LB m)⟩
   simp only [Act.put,bz,bu,bt]
   refine Gt.aR (Gd.gR rfl) (GRk B (kY k ⟨st,li,day,day+90,fI l num,(C.length:Int),0,0⟩) (qP k ⟨st,li,day,day+90,fI l num,(C.length:Int),0,0⟩)) (AQ _ _ _ _) (fun f=>[.int .i64 k,f 84]) rfl rfl rfl rfl rfl (by kernel_rfl) rfl (fun _=>rfl) (fun m f H=>?_) ?_
   · obtain ⟨J,K,c5,h5,o5⟩:=H 84 _ rfl rfl
     rw [h5]
     exact (g6 _ m.1 (XS.tr (LB m)) o5.rd).mono fun e hJ q=>VK q o5 (by show fI l num≠[];unfold fI;simp)
   simp only [Act.put,bz,bu,bt]
   refine Gt.wpX_movU (Gd.gR rfl) (GRk B (kY k ⟨st,li,day,day+90,fI l num,(C.length:Int),0,0⟩) (qP k ⟨st,li,day,day+90,fI l num,(C.length:Int),0,0⟩)) (AQ _ _ _ _) (fun f=>f 85) rfl rfl rfl rfl rfl (fun _=>rfl) (fun m f H=>H 85 _ rfl rfl) ?_
   simp only [Act.put,bz,bu,bt]
   refine Gt.fZ (Gd.gR rfl) (GRs B (kY k ⟨st,li,day,day+90,fI l num,(C.length:Int),0,0⟩) (kY k ⟨st,li,day,day+90,fI l num,(C.length:Int),0,0⟩).ser) (AP _ _ _ _) (fun f=>f 68) rfl rfl rfl rfl rfl (fun _=>rfl) (fun m f H=>by obtain ⟨J,K,c5,h5,o5⟩:=H 68 _ rfl rfl;rw [h5];exact ⟨_,_,(tZ _ _ _).1,aa _ _,J,K,c5,rfl,o5⟩) ?_
   simp only [Act.put,bz,bu,bt]
   refine Gt.fZ (Gd.gR rfl) (fun v _=>v=.int .i64 (qP k ⟨st,li,day,day+90,fI l num,(C.length:Int),0,0⟩)) (Gt.Rl.stable_eq _ _) (fun f=>f 68) rfl rfl rfl rfl rfl (fun _=>rfl) (fun m f H=>by obtain ⟨J,K,c5,h5,o5⟩:=H 68 _ rfl rfl;rw [h5];exact ⟨_,_,(tZ _ _ _).2,aa _ _,rfl⟩) ?_
   simp only [Act.put,bz,bu,bt]
   refine Gt.wpX_allocR8 I.heap.size (fun m=>(LB m).size) (pR _ _ _) (Gd.gR rfl) rfl rfl rfl rfl ?_
   simp only [Act.put,bz,bu,bt]
   refine Gt.dH (Gd.gR rfl) (C4 B (kY k ⟨st,li,day,day+90,fI l num,(C.length:Int),0,0⟩)) (fun f=>f 13) (fun f=>f 86) rfl rfl rfl rfl rfl (fun _=>rfl) (fun _=>rfl) C4.ext C4.st (fun m f H=>?_) ?_
   · obtain ⟨g,e9,hg,bg⟩:=H 13 _ rfl rfl
     obtain ⟨J,K,c5,h5,o5⟩:=H 86 _ rfl rfl
     rw [e9,h5]
     obtain ⟨w9,q1,q2,q3⟩:=VJ bg (kY k ⟨st,li,day,day+90,fI l num,(C.length:Int),0,0⟩) J K c5
     exact ⟨w9,q1,⟨a0U,q3 _ hg⟩,g,J,K,c5,rfl,dm gS hg,q2,o5.rgs (q3 (fun k=>I.heap.size<=k) hg) (by decide)⟩
   refine Gt.wpX_asgU (Gd.gR rfl) (fun v _=>v=.int .i64 (qP k ⟨st,li,day,day+90,fI l num,(C.length:Int),0,0⟩)) (Gt.Rl.stable_eq _ _) (fun f=>f 87) rfl rfl rfl rfl rfl (fun _=>rfl) (fun m f H=>H 87 _ rfl rfl) ?_
   simp only [Act.put,bz,bu,bt]
   refine Gt.wpX_endG rfl (fun m f H b0=>?_)
   have cI:C4 B (kY k ⟨st,li,day,day+90,fI l num,(C.length:Int),0,0⟩) (f 13) m.1:=b0 _ fm
   have eN:f 14=.int .i64 (qP k ⟨st,li,day,day+90,fI l num,(C.length:Int),0,0⟩):=H 14 _ rfl
   obtain ⟨g,J,K,c5,eg,hg,T5,O5⟩:=cI
   simp only [bQ]
   simp only [Act.put,bz,bu,bt]
   rw [eg,eN]
   have LM:=ab (LB m)
   have f0:=ab T5
   have f1:=ab O5
   clear b0 H eg eN W LB b6 p0 p3 h0 pk pl pb T5 O5
   generalize m.1=wm at *
   generalize f 84=hL at *
   generalize f 85=hP at *
   generalize f 68=hQ at *
   generalize f 86=hR at *
   generalize f 87=hW at *
   clear m f
   generalize kY k ⟨st,li,day,day+90,fI l num,(C.length:Int),0,0⟩=Y at *
   generalize qP k ⟨st,li,day,day+90,fI l num,(C.length:Int),0,0⟩=kk at *
   show wpList _ _ _ _ _ _
   have ZM:=ab (ZS.ext LM)
   have c29:=ZM.a.c29
   have cl:=ZM.a.lt
   have h2:=ZM.a.frozen 29
   have wl:IntKind.i64.wrap (li+1)=li+1:=ag _ (by omega)
   obtain ⟨wt,a3⟩:∃ wt,wt=wm.setCell ⟨w.heap.size,29,none⟩ (.int .i64 (li+1)):=⟨_,rfl⟩
   have hX:w.heap.size+1+1<g:=by have:=HB.out;omega
   have ZT:=ab (show RkZ w wt ⟨st,R,L,.slice (some ⟨Q,U,none⟩) C.length N,sg,ls,ssec,lsec,O,li+1,.slice F G c9,D,Z⟩ by
    rw [a3]
    exact ⟨aV.put_li (x:=⟨st,R,L,.slice (some ⟨Q,U,none⟩) C.length N,sg,ls,ssec,lsec,O,li,.slice F G c9,D,Z⟩) ZM.a (li+1),ZM.z.other (by omega),ZM.r.other (by omega)⟩)
   have XT:=ab (show Ext w wt by rw [a3];exact aI (XS.tr LM) (bh _))
   have f2:=ab (show Own wt B 3 (.slice F G c9) ((fI l num).map (Value.int .i64)) by rw [a3];exact (dA.ext LM).setLow (by have:=HB.out;omega))
   have f3:=ab (show Own wt B 3 (.slice J K c5) (Y.ser.map (Value.int .i64)) by rw [a3];exact f1.setLow (by have:=HB.out;omega))
   have h3:=ab (show dF wt g Y (.slice J K c5) by rw [a3];exact f0.other (by omega))
   go_upto_region 17 with fail
   rw [<- a3]
   clear a3 c29 cl h2 ZM f1 f0 LM dA ZS XS
   have h4:=ab (cN (x:=⟨st,R,L,.slice (some ⟨Q,U,none⟩) C.length N,sg,ls,ssec,lsec,O,li+1,.slice F G c9,D,Z⟩) ⟨H1.R,H1.L,rfl,rfl,H1.D,H1.Z⟩)
   refine Gt.aL (r:=RG auT (auG w)) 6 (by kernel_rfl) (by kernel_rfl) ?_
   simp only [eq,dw,ej,eh]
   intro wq b6
   have W:∀ m:(RG auT (auG w)).Lt wq,dp auT (auG w) wt m.1:=fun m=>dp.tr b6 m.2
   refine Gt.wpX_rowU (Gd.gR rfl) w.heap.size (aW ⟨st,R,L,.slice (some ⟨Q,U,none⟩) C.length N,sg,ls,ssec,lsec,O,li+1,.slice F G c9,D,Z⟩) rfl rfl rfl rfl rfl (fun _=>rfl) (fun m=>(W m).keep ZT.a.row (fun q=>by rcases q with q | q <;> omega)) Tryz.underlying50 rfl bL ?_
   simp only [Act.put,bz,bu,bt]
   refine Gt.wpX_rowU (Gd.gR rfl) g (jA Y (.slice J K c5)) rfl rfl rfl rfl rfl (fun _=>rfl) (fun m=>(W m).keep h3.row (fun q=>by rcases q with q | q <;> omega)) Tryz.underlying88 rfl fW ?_
   simp only [Act.put,bz,bu,bt]
   repeat (refine Gt.aB rfl fun b7 hK=>?_;go_big_quiet_op;refine hK _ ?_;clear hK b7)
   refine Gt.dH (Gd.gR rfl) (fun _ w'=>aV w' (w.heap.size+1) ⟨st,R,L,.slice (some ⟨Q,U,none⟩) C.length N,sg,ls,ssec,lsec,O,li+1,.slice F G c9,D,Z⟩) (fun _=>.pointer (some ⟨w.heap.size+1,0,none⟩)) (fun f=>f 92) rfl rfl rfl rfl rfl (fun _=>rfl) (fun _=>rfl) (fun _ _ _ e h=>aV.ext h e) (fun T hT _ _ _ e h=>e.2.other h (fun q=>hT (ah.1 q).symm)) (fun m f H=>?_) ?_
   · have e5:f 92=.agg (aW ⟨st,R,L,.slice (some ⟨Q,U,none⟩) C.length N,sg,ls,ssec,lsec,O,li+1,.slice F G c9,D,Z⟩):=H 92 _ rfl rfl
     rw [e5]
     obtain ⟨h6,q1,q2⟩:=mM.rg (n:=33) ⟨_,ZT.z.row,rfl⟩ (W m)
     exact ⟨_,dI (cells:=aW ⟨st,R,L,.slice (some ⟨Q,U,none⟩) C.length N,sg,ls,ssec,lsec,O,li+1,.slice F G c9,D,Z⟩) q1 bL q2 h4,⟨a0V,dp.setRow q1 (ah.2 rfl) (.inl rfl) q2.symm⟩,aT q1⟩
   refine Gt.dH (Gd.gR rfl) (fun _ w'=>dF w' (w.heap.size+1+1) Y (.slice J K c5)) (fun _=>.pointer (some ⟨w.heap.size+1+1,0,none⟩)) (fun f=>f 93) rfl rfl rfl rfl rfl (fun _=>rfl) (fun _=>rfl) (fun _ _ _ e h=>dF.ext h e) (fun T hT _ _ _ e h=>e.2.other h (fun q=>hT (ah.1 q).symm)) (fun m f H=>?_) ?_
   · have e5:f 93=.agg (jA Y (.slice J K c5)):=H 93 _ rfl rfl
     rw [e5]
     obtain ⟨h6,q1,q2⟩:=mM.rg (n:=8) ⟨_,ZT.r.row,rfl⟩ (W m)
     exact ⟨_,dI (cells:=jA Y (.slice J K c5)) q1 fW q2 (AT Y J K c5),⟨a0W,dp.setRow q1 (ah.2 rfl) (.inr rfl) q2.symm⟩,aT q1⟩
   repeat (refine Gt.aB rfl fun b7 hK=>?_;go_big_quiet_op;refine hK _ ?_;clear hK b7)
   refine Gt.wpX_endG rfl (fun m f H b0=>?_)
   have f4:dF m.1 (w.heap.size+1+1) Y (.slice J K c5):=b0 _ fm
   have cI:aV m.1 (w.heap.size+1) ⟨st,R,L,.slice (some ⟨Q,U,none⟩) C.length N,sg,ls,ssec,lsec,O,li+1,.slice F G c9,D,Z⟩:=b0 _ (io _ fm)
   simp only [bQ]
   simp only [Act.put,bz,bu,bt]
   have h7:=ab cI
   have h8:=ab f4
   have XE:=ab (show Ext w m.1 from XT.trans ((W m).below (B:=w.heap.size+1) (fun k q=>by rcases q with q | q <;> omega) ZT.a.lt |>.mono (Nat.le_succ _)))
   have R9:=ab (show fh m.1 .i64 (.slice F G c9) (fI l num) from (f2.rgs (W m) (by decide)).rd)
   have S9:=ab (show cG m.1 0 3 1 (.slice F G c9) (bH (fI l num)) from (f2.rgs (W m) (by decide)).safeK)
   have S5:=ab (show Own m.1 w.heap.size 3 (.slice J K c5) (bH Y.ser) from (f3.rgs (W m) (by decide)).mono (by have:=HB.out;omega))
   have R5:=ab (show fh m.1 .i64 (.slice J K c5) Y.ser from (f3.rgs (W m) (by decide)).rd)
   clear b0 H b6 W cI f4
   generalize m.1=we at *
   show wpList _ _ _ _ _ _
   go_wp2_with fail
   refine az (v:=.tuple #[.agg (aW ⟨st,R,L,.slice (some ⟨Q,U,none⟩) C.length N,sg,ls,ssec,lsec,O,li+1,.slice F G c9,D,Z⟩),.agg (jA Y (.slice J K c5)),.int .i64 kk]) ?_ rfl ⟨F,G,c9,J,K,c5,rfl,R9,R5,XE,S9,S5⟩
   simp [results,Tryz.results69,asAddr,run_loadVar_row we (w.heap.size+1) 50 50 (aW ⟨st,R,L,.slice (some ⟨Q,U,none⟩) C.length N,sg,ls,ssec,lsec,O,li+1,.slice F G c9,D,Z⟩) (0,0) _ h7.row Tryz.underlying50 rfl bL,run_loadVar_row we (w.heap.size+1+1) 88 88 (jA Y (.slice J K c5)) (0,0) _ h8.row Tryz.underlying88 rfl fW]
  case pos =>
  obtain ⟨t,ht⟩:∃ t,l[k]?=some t:=⟨_,dg hlt⟩
  obtain ⟨b,oo,rfl,e2,hc⟩:=cX (by omega)
  have l0:=(X5.cell (p:=⟨b,oo+k,none⟩) e2).trans (hc k hlt)
  rw [show l.getD k 0=t by rw [bj,ht];rfl] at l0
  have a4:=ab (VG (n:=num) ht)
  have a5:=ab (show (P1++jf (l.take k) num).length<=2001 by have:=gA.out;have:=g7 k;rw [cz];omega)
  clear hc ht
  have hY:IntKind.i64.wrap ((k:Int))=(k:Int):=ag _ (by omega)
  have hZ:(0:Int)<=(k:Int):=by omega
  have i0:(k:Int)<(l.length:Int):=by omega
  have i1:((k:Int)).toNat=k:=by omega
  obtain ⟨a2,hN⟩:∃ a2,jf (l.take k) num=a2:=⟨_,rfl⟩
  rw [hN] at a4 a5 a0
  rw [hN]
  clear hN
  by_cases d3:num<t
  case neg =>
   have HF:=ab (show jf (l.take (k+1)) num=a2 by rw [a4];exact ao d3)
   go_wp2_with fail
   go_roundw
   case rel=>exact ⟨k+1,F,c9,by omega,by go_num,by rw [HF],by rw [HF];exact a0,X⟩
   case measure=>simp [intOf];omega
  have HF:=ab (show jf (l.take (k+1)) num=a2++[t] by rw [a4];exact ax d3)
  have eA:Ext wr (wr.alloc (.cells #[.int .i64 t] 3)):=(aa _ _).alloc (bh _) _
  have a6:=ab (a0.ext eA)
  have a7:=ab (F4 wr t)
  have XA:=ab (X.alloc (by have:=X.size;have:=a1.out;omega) (.cells #[.int .i64 t] 3))
  clear eA
  go_wp2_with (refine jI (B:=B) (w0:=wz) GX a6 a7 (fun u hu=>by rw [ah.1 hu];rfl) XA (by have:=a5.out;simp only [List.length_map,dq,dn];omega) (by have:=a5.out;unfold maxLen;simp only [List.length_map,dq,dn];omega) (by have:=XA.size;have:=a1.out;omega) rfl rfl rfl rfl ?_;intro A8 c8 w8 o8 x8 g8)
  have b4:=ab o8
  have b5:=ab x8
  clear o8 x8 g8
  go_roundw
  case rel=>exact ⟨k+1,A8,c8,by omega,by go_num,by rw [HF];simp [ch],by rw [HF];refine ab ?_;have:=b4.out;simpa [fc,ch] using this,b5⟩
  case measure=>simp [intOf];omega
 case pos =>
 obtain ⟨t,ht⟩:∃ t,l[k]?=some t:=⟨_,dg hlt⟩
 obtain ⟨b,oo,rfl,e2,hc⟩:=cX (by omega)
 have l0:=(X5.cell (p:=⟨b,oo+k,none⟩) e2).trans (hc k hlt)
 rw [show l.getD k 0=t by rw [bj,ht];rfl] at l0
 have a4:=ab (QW (n:=num) ht)
 have a5:=ab (show (pQ (l.take k) num).length<=2001 by have:=d6 l.length;have:=d6 k;(try simp only [cz,dq,dn]);omega)
 clear hc ht
 have i2:IntKind.i64.wrap ((k:Int))=(k:Int):=ag _ (by omega)
 have i3:(0:Int)<=(k:Int):=by omega
 have i4:(k:Int)<(l.length:Int):=by omega
 have i5:((k:Int)).toNat=k:=by omega
 obtain ⟨a2,hN⟩:∃ a2,pQ (l.take k) num=a2:=⟨_,rfl⟩
 rw [hN] at a4 a5 a0
 rw [hN]
 clear hN
 by_cases d3:t<num
 case neg =>
  have HF:=ab (show pQ (l.take (k+1)) num=a2 by rw [a4];exact ao d3)
  go_wp2_with fail
  go_roundw
  case rel=>exact ⟨k+1,F,c9,by omega,by go_num,by rw [HF],by rw [HF];exact a0,X⟩
  case measure=>simp [intOf];omega
 have HF:=ab (show pQ (l.take (k+1)) num=a2++[t] by rw [a4];exact ax d3)
 have eA:Ext wr (wr.alloc (.cells #[.int .i64 t] 3)):=(aa _ _).alloc (bh _) _
 have a6:=ab (a0.ext eA)
 have a7:=ab (F4 wr t)
 have XA:=ab (X.alloc (by have:=X.size;have:=a1.out;omega) (.cells #[.int .i64 t] 3))
 clear eA
 go_wp2_with (refine jI (B:=B) (w0:=wz) GX a6 a7 (fun u hu=>by rw [ah.1 hu];rfl) XA (by have:=a5.out;simp only [List.length_map,dq,dn];omega) (by have:=a5.out;unfold maxLen;simp only [List.length_map,dq,dn];omega) (by have:=XA.size;have:=a1.out;omega) rfl rfl rfl rfl ?_;intro A8 c8 w8 o8 x8 g8)
 have b4:=ab o8
 have b5:=ab x8
 clear o8 x8 g8
 go_roundw
 case rel=>exact ⟨k+1,A8,c8,by omega,by go_num,by rw [HF];simp,by rw [HF];refine ab ?_;have:=b4.out;simpa [fc,ch] using this,b5⟩
 case measure=>simp [intOf];omega
def adT:List Nat:=[50,41]
theorem a0X:50∈adT:=fm
theorem a0Y:41∈adT:=io _ (ah.2 rfl)
structure DbZ (w wr:World) (x:AB):Prop where
 a:aV wr w.heap.size x
 z:aV wr (w.heap.size+1) dG
 r:bN wr (w.heap.size+1+1) dC (.slice none 0 0)
theorem DbZ.ext {w wr wx:World}{x:AB}(h:DbZ w wr x)(e:Ext wr wx):DbZ w wx x:=⟨h.a.ext e,h.z.ext e,h.r.ext e⟩
theorem QX(k:Int)(m:DV):(iO k m).defs=m.defs\/(iO k m).defs=[]:=by
 unfold iO;split;· exact .inl rfl
 · exact .inr rfl
theorem VP {F C:World}{s v:Value}{m:DV}{l:List DF}(h:fd F s m.defs)(G:s=v\/s=.slice none 0 0)(H:fd C v l)(q:m.defs=l\/m.defs=[]):fd C s m.defs:=by
 by_cases h0:m.defs=[];· have h:RdK F 5 s (aX m.defs):=h;show RdK C 5 s (aX m.defs);rw [h0]at h⊢;exact RdK.none_ (by decide) h
 · rcases q with q | q;(· rcases G with rfl | rfl;(· rw [q];exact H);· obtain⟨A,n,c,e,I,_⟩:=fd.at_ h;injection e with K J N;subst J;exact absurd (ig I.symm) h0);· exact absurd q h0
def a1x(w:World)(x:AB)(v:Value)(m:DV)(k:Int)(e:Ending)(w':World):Prop:=∃A n c,e=.returned (.tuple #[gt {x with li:=x.li+1},fu m (.slice A n c),.int .i64 k])/\fd w' (.slice A n c) m.defs/\Ext w w'/\(.slice A n c=v\/ .slice A n c=Value.slice none 0 0)
set_option maxHeartbeats 16000000 in
theorem pT (x:AB) (l:List DF) (day:Int) (w:World) (X:fd w x.D l) (hs:gv l) (hg:df x.ls) (a1:x.st.length<=maxLen) (cI:-1000000<=x.li) (cJ:x.li<=1000000) (h1:kI x) (E:dY w 0) :
 Calls Tryz.prog 26 #[gt x,.int .i64 day] w (a1x w x x.D (iO x.lsec ⟨x.st,x.li,day,l,x.ls,0,0⟩) (tV x.lsec ⟨x.st,x.li,day,l,x.ls,0,0⟩)):=by
 obtain ⟨st,R,L,S,sg,ls,ssec,lsec,G,li,V,D,Z⟩:=x
 simp only at hg a1 cI cJ X
 have a8:=ab (fun b0 (e:Ext w b0)=>BX lsec ⟨st,li,day,l,ls,0,0⟩ D b0 (RdK.ext X e) hs hg a1 (E.below e))
 have HV:=ab X
 obtain ⟨H,nV,I,rfl,cL,-⟩:=fd.at_ X
 subst cL
 obtain ⟨wa,a0,ea,TA⟩:=pP w ⟨st,R,L,S,sg,ls,ssec,lsec,G,li,V,.slice H l.length I,Z⟩
 obtain ⟨wb,a2,eb,TB⟩:=AO wa
 obtain ⟨wz,b3,ez,TZ⟩:=lX wb dC (.slice none 0 0)
 dsimp only at a0
 have a3:wa.heap.size=w.heap.size+1:=by rw [a0];simp
 have b4:wb.heap.size=w.heap.size+1+1:=by rw [a2];simp [a3]
 rw [a3] at TB
 rw [b4] at TZ
 have EZ:=ab (ea.tr (eb.tr ez))
 have C:=ab (show DbZ w wz ⟨st,R,L,S,sg,ls,ssec,lsec,G,li,V,.slice H l.length I,Z⟩ from ⟨(TA.ext eb).ext ez,TB.ext ez,TZ⟩)
 have Q:=ab h1
 have b5:wz=wb.alloc (.cells ft 41):=b3
 clear b3
 clear X hs hg ea eb ez TA TB TZ a3 b4 h1 E a1
 unfold gt
 go_in
 go_upto_region 1 with fail
 rw [<- a0,<- a2,<- b5]
 clear a0 a2 b5
 have c0:=C.a.c0
 have c15:=C.a.c15
 have c16:=C.a.c16
 have c17:=C.a.c17
 have c18:=C.a.c18
 have c19:=C.a.c19
 have c20:=C.a.c20
 have c21:=C.a.c21
 have c22:=C.a.c22
 have c23:=C.a.c23
 have c24:=C.a.c24
 have c25:=C.a.c25
 have c27:=C.a.c27
 have c29:=C.a.c29
 have c31:=C.a.c31
 have cl:=C.a.lt
 go_wp2_with fail
 refine (a8 wz EZ).mono ?_
 rintro e w1 ⟨J,K,c5,rfl,r5,b1,b6⟩
 generalize b7:iO lsec ⟨st,li,day,l,ls,0,0⟩=F at *
 generalize tV lsec ⟨st,li,day,l,ls,0,0⟩=kk at *
 have cR:=ab (show F.defs=l \/ F.defs=[] by rw [<- b7];exact QX lsec ⟨st,li,day,l,ls,0,0⟩)
 clear b7
 clear c0 c15 c16 c17 c18 c19 c20 c21 c22 c23 c24 c25 c27 c29 c31 cl
 obtain ⟨wm,b8,em,tm⟩:=lX w1 F (.slice J K c5)
 unfold fu aE
 go_upto_region 2 with fail
 rw [<- b8]
 clear b8
 obtain ⟨g,a4⟩:∃ g,w1.heap.size=g:=⟨_,rfl⟩
 rw [a4] at tm
 try rw [a4]
 have N:=ab (C.ext (b1.tr em))
 have d4:w.heap.size+1+1<g:=by have:=(C.ext b1).r.lt;omega
 have XM:=ab (EZ.tr (b1.tr em))
 have b9:=ab tm
 have a5:=ab (And.intro r5 b6)
 clear b1 em tm a4 C EZ r5 b6 a8
 have c29:=N.a.c29
 have cl:=N.a.lt
 have cS:=N.a.frozen 29
 have wl:IntKind.i64.wrap (li+1)=li+1:=ag _ (by omega)
 obtain ⟨U,Y⟩:∃ U,U=wm.setCell ⟨w.heap.size,29,none⟩ (.int .i64 (li+1)):=⟨_,rfl⟩
 have ZT:=ab (show DbZ w U ⟨st,R,L,S,sg,ls,ssec,lsec,G,li+1,V,.slice H l.length I,Z⟩ by
  rw [Y]
  exact ⟨aV.put_li (x:=⟨st,R,L,S,sg,ls,ssec,lsec,G,li,V,.slice H l.length I,Z⟩) N.a (li+1),N.z.other (by omega),N.r.other (by omega)⟩)
 have XT:=ab (show Ext w U by rw [Y];exact aI XM (bh _))
 have cU:=ab (show bN U g F (.slice J K c5) by rw [Y];exact b9.other (by omega))
 go_upto_region 3 with fail
 rw [<- Y]
 clear Y c29 cl cS N b9 XM
 have cX:=ab (cN (x:=⟨st,R,L,S,sg,ls,ssec,lsec,G,li+1,V,.slice H l.length I,Z⟩) ⟨Q.R,Q.L,Q.S,Q.V,Q.D,Q.Z⟩)
 have d0:=ab (fS F (.slice J K c5) rfl)
 refine Gt.aL (r:=RG adT (auG w)) 6 (by kernel_rfl) (by kernel_rfl) ?_
 simp only [eq,dw,ej,eh]
 intro wq bB
 have W:∀ m:(RG adT (auG w)).Lt wq,dp adT (auG w) U m.1:=fun m=>dp.tr bB m.2
 refine Gt.wpX_rowU (Gd.gR rfl) w.heap.size (aW ⟨st,R,L,S,sg,ls,ssec,lsec,G,li+1,V,.slice H l.length I,Z⟩) rfl rfl rfl rfl rfl (fun _=>rfl) (fun m=>(W m).keep ZT.a.row (fun q=>by rcases q with q | q <;> omega)) Tryz.underlying50 rfl bL ?_
 simp only [Act.put,bz,bu,bt]
 refine Gt.wpX_rowU (Gd.gR rfl) g (aE F (.slice J K c5)).toArray rfl rfl rfl rfl rfl (fun _=>rfl) (fun m=>(W m).keep cU.row (fun q=>by rcases q with q | q <;> omega)) Tryz.underlying41 rfl bE ?_
 simp only [Act.put,bz,bu,bt]
 repeat (refine Gt.aB rfl fun a6 hK=>?_;go_big_quiet_op;refine hK _ ?_;clear hK a6)
 refine Gt.dH (Gd.gR rfl) (fun _ w'=>aV w' (w.heap.size+1) ⟨st,R,L,S,sg,ls,ssec,lsec,G,li+1,V,.slice H l.length I,Z⟩) (fun _=>.pointer (some ⟨w.heap.size+1,0,none⟩)) (fun f=>f 29) rfl rfl rfl rfl rfl (fun _=>rfl) (fun _=>rfl) (fun _ _ _ e h=>aV.ext h e) (fun T hT _ _ _ e h=>e.2.other h (fun q=>hT (ah.1 q).symm)) (fun m f hf=>?_) ?_
 · have e5:f 29=.agg (aW ⟨st,R,L,S,sg,ls,ssec,lsec,G,li+1,V,.slice H l.length I,Z⟩):=hf 29 _ rfl rfl
   rw [e5]
   obtain ⟨d1,O,q2⟩:=mM.rg (n:=33) ⟨_,ZT.z.row,rfl⟩ (W m)
   exact ⟨_,dI (cells:=aW ⟨st,R,L,S,sg,ls,ssec,lsec,G,li+1,V,.slice H l.length I,Z⟩) O bL q2 cX,⟨a0X,dp.setRow O (ah.2 rfl) (.inl rfl) q2.symm⟩,aT O⟩
 refine Gt.dH (Gd.gR rfl) (fun _ w'=>bN w' (w.heap.size+1+1) F (.slice J K c5)) (fun _=>.pointer (some ⟨w.heap.size+1+1,0,none⟩)) (fun f=>f 30) rfl rfl rfl rfl rfl (fun _=>rfl) (fun _=>rfl) (fun _ _ _ e h=>bN.ext h e) (fun T hT _ _ _ e h=>e.2.other h (fun q=>hT (ah.1 q).symm)) (fun m f hf=>?_) ?_
 · have e5:f 30=.agg (aE F (.slice J K c5)).toArray:=hf 30 _ rfl rfl
   rw [e5]
   obtain ⟨d1,O,q2⟩:=mM.rg (n:=17) ⟨_,ZT.r.row,rfl⟩ (W m)
   exact ⟨_,dI (cells:=(aE F (.slice J K c5)).toArray) O bE q2 d0,⟨a0Y,dp.setRow O (ah.2 rfl) (.inr rfl) q2.symm⟩,aT O⟩
 repeat (refine Gt.aB rfl fun a6 hK=>?_;go_big_quiet_op;refine hK _ ?_;clear hK a6)
 refine Gt.wpX_endG rfl (fun m f hf a7=>?_)
 have bS:bN m.1 (w.heap.size+1+1) F (.slice J K c5):=a7 _ fm
 have cD:aV m.1 (w.heap.size+1) ⟨st,R,L,S,sg,ls,ssec,lsec,G,li+1,V,.slice H l.length I,Z⟩:=a7 _ (io _ fm)
 simp only [bQ]
 simp only [Act.put,bz,bu,bt]
 have d2:=ab cD
 have d3:=ab bS
 have XE:=ab (show Ext w m.1 from XT.trans ((W m).below (B:=w.heap.size+1) (fun k q=>by rcases q with q | q <;> omega) ZT.a.lt |>.mono (Nat.le_succ _)))
 have R5:=ab (show fd m.1 (.slice J K c5) F.defs from VP a5.1 a5.2 (RdK.ext HV XE) cR)
 clear a7 hf bB W cD bS
 generalize m.1=we at *
 show wpList _ _ _ _ _ _
 go_wp2_with fail
 refine az (v:=.tuple #[.agg (aW ⟨st,R,L,S,sg,ls,ssec,lsec,G,li+1,V,.slice H l.length I,Z⟩),.agg (aE F (.slice J K c5)).toArray,.int .i64 kk]) ?_ rfl ⟨J,K,c5,rfl,R5,XE,a5.2⟩
 simp [results,Tryz.results26,asAddr,run_loadVar_row we (w.heap.size+1) 50 50 (aW ⟨st,R,L,S,sg,ls,ssec,lsec,G,li+1,V,.slice H l.length I,Z⟩) (0,0) _ d2.row Tryz.underlying50 rfl bL,run_loadVar_row we (w.heap.size+1+1) 41 41 (aE F (.slice J K c5)).toArray (0,0) _ d3.row Tryz.underlying41 rfl bE]
end Go.Proofs.YtmmoenkmicimcaaGreatDoor
