import Derived.Test.YtmmoenkmicimcaaGreatDoorOab
namespace Go.Proofs.YtmmoenkmicimcaaGreatDoor.Gd
open Go Go.RowKit Go.Proofs.YtmmoenkmicimcaaGreatDoor
set_option linter.unusedVariables false
def pZ(ops:Array Oper)(o:Oper):List Nat:=match o.guard with | none=>[] | some (j,_)=>match(ops[j]?).bind (·.dst)with | some t=>[t] | none=>[]
def eV(ops:Array Oper)(o:Oper):List Nat:=bI o++pZ ops o
def jg(P:Program)(ops:Array Oper)(o:Oper)(a:Act)(w:World)(K:Act->World->Prop)(Q:Exit->Act->World->Prop):Prop:=if Region.wanted o (yielded ops a.tmps)then o.wp P a w K Q else K (a.put o.dst undef) w
theorem oP {P:Program}{ops:Array Oper}{Q:Exit->Act->World->Prop}{o:Oper}{a:Act}{w:World}{K q:Act->World->Prop}(h:∀a w,K a w->q a w)(l:jg P ops o a w K Q):jg P ops o a w q Q:=by
 unfold jg at*;split;· rename_i c;rw [ax c]at l;exact Oper.wp_mono h l
 · rename_i c;rw [ao c]at l;exact h _ _ l
def eC(ops:Array Oper)(o:Oper)(a:Act)(l:List (Nat×aM)):Prop:=match o.guard with | none=>True | some (j,b)=>∃t,(ops[j]?).bind (·.dst)=some t/\l.lookup t=none/\a.eval (.tmp t)=.bool b
def mC(ops:Array Oper)(o:Oper)(a:Act)(l:List (Nat×aM)):Prop:=match o.guard with | none=>False | some (j,b)=>∃t,(ops[j]?).bind (·.dst)=some t/\l.lookup t=none/\a.eval (.tmp t)=.bool (!b)
def gB(ops:Array Oper)(o:Oper)(a:Act)(l:List (Nat×aM)):Bool:=match o.guard with | none=>true | some (j,b)=>match(ops[j]?).bind (·.dst)with | none=>false | some t=>(l.lookup t).isNone&&match a.eval (.tmp t)with | .bool c=>c==b | _=>false
theorem gR {ops:Array Oper}{o:Oper}{a:Act}{q:List (Nat×aM)}(h:gB ops o a q=true):eC ops o a q:=by
 unfold gB at h;unfold eC;split;· trivial
 · rename_i j b hg;rw [hg]at h;simp only at h;split at h;(· cases h);· rename_i t C;rw [Bool.and_eq_true]at h;refine⟨t,C,Option.isNone_iff_eq_none.1 h.1,?_⟩;have l:=h.2;split at l;(· rename_i c F;rw [F,beq_iff_eq.1 l]);· cases l
theorem xO {ops:Array Oper}{a:Act}{j t:Nat}{b:Bool}(h:(ops[j]?).bind (·.dst)=some t)(l:a.eval (.tmp t)=.bool b):yielded ops a.tmps j=some b:=by
 unfold yielded;rw [h];simp only [Option.bind_some];have:a.tmps[t]?=some (.bool b):=by simp only [Act.eval,Array.getD_eq_getD_getElem?]at l;cases q:a.tmps[t]? with | none=>rw [q]at l;cases l | some v=>rw [q]at l;simp only [Option.getD_some]at l;rw [l]
 rw [this]
theorem xP {ops:Array Oper}{o:Oper}{j t:Nat}{b:Bool}(hg:o.guard=some (j,b))(h:(ops[j]?).bind (·.dst)=some t):t∈eV ops o:=by unfold eV pZ;rw [hg];simp only [h];simp
theorem kT {P:Program}{ops:Array Oper}{Q:Exit->Act->World->Prop}{o:Oper}{a l:Act}{C:List (Nat×aM)}{w:World}{K:Act->World->Prop}(hg:eC ops o a C)(G:∀t∈eV ops o,dN a C t (l.eval (.tmp t)) w)(h:(∀t∈bI o,dN a C t (l.eval (.tmp t)) w)->o.wp P l w K Q):jg P ops o l w K Q:=by
 have J:=h fun t N=>G t (List.mem_append_left _ N);unfold jg;rw [ax];· exact J
 · unfold eC at hg;unfold Region.wanted;cases H:o.guard with | none=>rfl | some q=>obtain⟨j,b⟩:=q;rw [H]at hg;obtain⟨t,I,O,U⟩:=hg;have F:=G t (xP H I);unfold dN at F;rw [O]at F;simp only [xO I (F.trans U),beq_self_eq_true]
theorem xQ {P:Program}{ops:Array Oper}{Q:Exit->Act->World->Prop}{o:Oper}{a l:Act}{G:List (Nat×aM)}{w:World}{K:Act->World->Prop}(hg:mC ops o a G)(I:∀t∈eV ops o,dN a G t (l.eval (.tmp t)) w)(h:K (l.put o.dst undef) w):jg P ops o l w K Q:=by
 unfold jg;rw [ao];· exact h
 · unfold mC at hg;unfold Region.wanted;cases C:o.guard with | none=>rw [C]at hg;exact hg.elim | some q=>obtain⟨j,b⟩:=q;rw [C]at hg;obtain⟨t,H,J,N⟩:=hg;have F:=I t (xP C H);unfold dN at F;rw [J]at F;simp only [xO H (F.trans N)];cases b<;>decide
def iY(o:Oper):Bool:=sD o||(match o.op with | .pick ..=>true | _=>false)
theorem kU {P:Program}{ρ:Operand->Value}{o:Oper}(l:iY o=true){w w':World}{f:FuncId}{args:Array Value}:(execOp ρ o).run P w≠.ok (.enter f args) w':=by
 unfold iY at l;rw [Bool.or_eq_true]at l;rcases l with l | l;· exact oL l
 · obtain⟨G,C,H,pos,I,guard⟩:=o;(cases C<;>simp only []at l<;>first | (cases l;done) | skip);rename_i c x y;intro h;unfold execOp at h;simp only [Sem.run_bind]at h;cases q:(asBool (ρ c)).run P w with | ok b F=>rw [q]at h;simp at h | halt b F=>rw [q]at h;simp at h
end Go.Proofs.YtmmoenkmicimcaaGreatDoor.Gd
namespace Go.Proofs.YtmmoenkmicimcaaGreatDoor
open Go Go.RowKit
def ja (a:Act) (l:List (Nat × aM)) (f:Nat->Value):Operand->Value
 | .tmp t=>match l.lookup t with
   | some _=>f t
   | none=>a.eval (.tmp t)
 | x=>a.eval x
def oE (a:Act):Operand->Bool
 | .tmp t=>Nat.blt t a.tmps.size
 | _=>true
theorem RN {a b:Act}{q:List (Nat×aM)}{f:Nat->Value}{x:Operand}(F:b.tmps.size=a.tmps.size)(G:∀(i:Nat)(C:i<b.tmps.size)(l:i<a.tmps.size),b.tmps[i]=if(q.lookup i).isSome then f i else a.tmps[i])(h:oE a x=true):b.eval x=ja a q f x:=by cases x with | tmp t=>have l:t<a.tmps.size:=cQ h;have C:t<b.tmps.size:=(by rw [F];exact l);have:=G t C l;unfold ja;simp only [Act.eval];rw [<- Array.getElem_eq_getD (h:=C),<- Array.getElem_eq_getD (h:=l),this];cases q.lookup t<;>rfl | _=>rfl
end Go.Proofs.YtmmoenkmicimcaaGreatDoor
namespace Go.Proofs.YtmmoenkmicimcaaGreatDoor.Gt
open Go Go.RowKit Go.Proofs.YtmmoenkmicimcaaGreatDoor
open Go.Proofs.YtmmoenkmicimcaaGreatDoor.Gd (gB gR eV jg oP eC mC kT xQ pZ iY kU)
set_option linter.unusedVariables false
structure Rl where
 rel:World->World->Prop
 st:Nat->World->World->Prop
 refl:∀ w,rel w w
 tr:∀ {a b c:World},rel a b->rel b c->rel a c
 ext:∀ {a b:World},Ext a b->rel a b
 sub:∀ {T:Nat}{a b:World},st T a b->rel a b
 dx:World->World->Prop
 dxe:∀ {a b:World},Ext a b->dx a b
 dxs:∀ {a b:World},dx a b->rel a b
def Rl.stable(r:Rl)(g:aM):Prop:=∀v w w',r.rel w w'->g v w->g v w'
theorem Rl.stable_eq(r:Rl)(v:Value):r.stable (fun u _=>u=v):=fun _ _ _ _ h=>h
def Rl.Lt(r:Rl)(w:World):={w':World//r.rel w w'}
instance ltNe(r:Rl)(w:World):Nonempty (r.Lt w):=⟨⟨w,r.refl w⟩⟩
def jb(o:Oper):Nat:=match o.op with | .store t _ _=>t | _=>0
def iq(o:Oper):Nat:=match o.op with | .store _ (.tmp p) _=>p | _=>0
def jy(r:Rl)(o:Oper)(w w':World):Prop:=match o.dst with | some _=>r.dx w w' | none=>r.st (jb o) w w'
def stb(r:Rl)(o:Oper)(g:aM):Prop:=match o.dst with | some _=>r.stable g | none=>(∀v w w',r.dx w w'->g v w->g v w')/\∀T,T≠jb o->∀v w w',r.st T w w'->g v w->g v w'
theorem WU {r:Rl}{o:Oper}{w w':World}(h:jy r o w w'):r.rel w w':=by
 unfold jy at h;split at h;· exact r.dxs h
 · exact r.sub h
structure a1J (r:Rl) (ops:Array Oper) (n:Nat) (a0:Act) (w0:World) (good:Nat->aM) (listed:Array Bool) (a:Act) (w:World):Prop where
 ext:r.rel w0 w
 defers:a.defers=a0.defers
 size:a.tmps.size=a0.tmps.size
 clo:∀ j,j<n->listed.getD j false=true->∀ oj,ops[j]?=some oj->∀ e ∈ oj.after,Region.binds .any e=true->listed.getD e.on false=true
 done:∀ j,j<n->listed.getD j false=true->∀ oj,ops[j]?=some oj->∀ d,oj.dst=some d->good j (a.eval (.tmp d)) w
 kept:∀ j,j<n->listed.getD j false=true->∀ oj,ops[j]?=some oj->oj.dst=none->good j (a.eval (.tmp (iq oj))) w
 old:∀ t,(∀ j,j<n->listed.getD j false=true->∀ oj,ops[j]?=some oj->oj.dst≠some t)->a.eval (.tmp t)=a0.eval (.tmp t)
def wpX (r:Rl) (P:Program) (ops:Array Oper) (Q:Exit->Act->World->Prop) (w0:World) (R:Act->World->Prop):List (Nat × aM)->List Oper->Act->List (Nat × aM)->Prop
 | ss,[],a,C=>∀ l w,r.rel w0 w->l.defers=a.defers->l.tmps.size=a.tmps.size->(∀ t,dN a C t (l.eval (.tmp t)) w)->(∀ q ∈ ss,q.2 (l.eval (.tmp q.1)) w)->R l w
 | ss,o::G,a,C=>(∃ d g,o.dst=some d/\d<a.tmps.size/\r.stable g /\
    (∀ l w,r.rel w0 w->(∀ t ∈ eV ops o,dN a C t (l.eval (.tmp t)) w)->jg P ops o l w (fun H F=>∃ v,H=l.put o.dst v/\r.dx w F/\g v F) Q) /\
    ((∃ v,g=(fun u _=>u=v)/\wpX r P ops Q w0 R ss G (a.put (some d) v) C) \/ wpX r P ops Q w0 R ss G (a.put (some d) undef) ((d,g)::C))) \/
   (∃ q:aM,o.dst=none/\(∀ v w w',r.dx w w'->q v w->q v w')/\(∀ T,T≠jb o->∀ v w w',r.st T w w'->q v w->q v w') /\
     (∀ l w,r.rel w0 w->(∀ t ∈ eV ops o,dN a C t (l.eval (.tmp t)) w)->jg P ops o l w (fun H F=>∃ v,H=l.put o.dst v/\r.st (jb o) w F/\q (l.eval (.tmp (iq o))) F) Q) /\
     wpX r P ops Q w0 R ((iq o,q)::ss) G a C)
section
variable {r:Rl}{P:Program}{ops:Array Oper}{Q:Exit->Act->World->Prop}
def Ob(r:Rl)(P:Program)(ops:Array Oper)(Q:Exit->Act->World->Prop)(n:Nat)(a0:Act)(w0:World)(good:Nat->aM)(i:Nat)(o:Oper):Prop:=(∀d,o.dst=some d->d<a0.tmps.size)/\stb r o (good i)/\∀l w,r.rel w0 w->(∀t∈eV ops o,vQ ops n a0 good t (l.eval (.tmp t)) w) ->jg P ops o l w (fun C q=>∃v,C=l.put o.dst v/\jy r o w q/\(∀d,o.dst=some d->good i v q)/\(o.dst=none->good i (l.eval (.tmp (iq o))) q)) Q
def iX(ops:Array Oper)(n:Nat):Bool:=decide (n<=ops.size)&&(List.range n).all fun i=>match ops[i]? with | none=>false | some o=>(o.dst.isSome||(eV ops o).contains (iq o))&&(o.after.all (fun e=>!Region.binds .any e||decide (e.on<i))&&(List.range n).all (fun j=>match ops[j]? with | none=>false | some l=>(j==i||(l.dst.isNone&&o.dst.isNone&&jb l !=jb o)||l.dst !=o.dst)&&((eV ops o).all fun t=>l.dst !=some t||o.after.any fun e=>Region.binds .any e&&e.on==j)))
structure rI (ops:Array Oper) (n:Nat):Prop where
 le:n<=ops.size
 ptr:∀ i o,i<n->ops[i]?=some o->o.dst=none->iq o ∈ eV ops o
 back:∀ i o,i<n->ops[i]?=some o->∀ e ∈ o.after,Region.binds .any e=true->e.on<i
 one:∀ i o j oj,i<n->j<n->ops[i]?=some o->ops[j]?=some oj->j≠i->(oj.dst=none/\o.dst=none/\jb oj≠jb o) \/ oj.dst≠o.dst
 wait:∀ i o j oj,i<n->j<n->ops[i]?=some o->ops[j]?=some oj->∀ t ∈ eV ops o,oj.dst=some t->∃ e ∈ o.after,Region.binds .any e=true/\e.on=j
theorem uK {n:Nat}(h:iX ops n=true):rI ops n:=by
 unfold iX at h;simp only [Bool.and_eq_true,decide_eq_true_eq]at h;obtain⟨N,O⟩:=h;have key:∀i o,i<n->ops[i]?=some o->((o.dst.isSome||(eV ops o).contains (iq o))&&(o.after.all (fun e=>!Region.binds .any e||decide (e.on<i))&&(List.range n).all (fun j=>match ops[j]? with | none=>false | some l=>(j==i||(l.dst.isNone&&o.dst.isNone&&jb l !=jb o)||l.dst !=o.dst)&&((eV ops o).all fun t=>l.dst !=some t||o.after.any fun e=>Region.binds .any e&&e.on==j))))=true:=fun i o q ho=>by have:=List.all_eq_true.1 O i (List.mem_range.2 q);rw [ho]at this;exact this
 have K:∀i o j l,i<n->j<n->ops[i]?=some o->ops[j]?=some l->((j==i||(l.dst.isNone&&o.dst.isNone&&jb l !=jb o)||l.dst !=o.dst)&&((eV ops o).all fun t=>l.dst !=some t||o.after.any fun e=>Region.binds .any e&&e.on==j))=true:=fun i o j l q F ho G=>by have:=key i o q ho;simp only [Bool.and_eq_true]at this;have:=List.all_eq_true.1 this.2.2 j (List.mem_range.2 F);rw [G]at this;exact this
 refine⟨N,fun i o q ho I=>?_,fun i o q ho e J H=>?_,fun i o j l q F ho G Q=>?_,fun i o j l q F ho G t U I=>?_⟩;· have:=key i o q ho;simp only [Bool.and_eq_true,Bool.or_eq_true]at this;rcases this.1 with h | h;(· rw [I]at h;cases h);· simpa using h
 · have:=key i o q ho;simp only [Bool.and_eq_true]at this;have C:=Array.all_eq_true_iff_forall_mem.1 this.2.1 e J;simp only [H,Bool.not_true,Bool.false_or,decide_eq_true_eq]at C;exact C
 · have:=K i o j l q F ho G;simp only [Bool.and_eq_true,Bool.or_eq_true,beq_iff_eq,bne_iff_ne]at this;rcases this.1 with(h | ⟨⟨W,C⟩,X⟩) | h;(· exact absurd h Q);(· exact .inl ⟨Option.isNone_iff_eq_none.1 W,Option.isNone_iff_eq_none.1 C,X⟩);· exact .inr h
 · have:=K i o j l q F ho G;simp only [Bool.and_eq_true]at this;have C:=List.all_eq_true.1 this.2 t U;simp only [Bool.or_eq_true,bne_iff_ne,I,ne_eq,not_true_eq_false,false_or]at C;obtain⟨e,J,H⟩:=Array.any_eq_true'.1 C;simp only [Bool.and_eq_true,beq_iff_eq]at H;exact⟨e,J,H.1,H.2⟩
theorem RO(a:Act)(v:Value):a.put none v=a:=rfl
theorem xN {n:Nat}{a0:Act}{w0:World}{good:Nat->aM}(X:rI ops n)(ht:jR ops n=true)(a4:∀i o,i<n->ops[i]?=some o->Ob r P ops Q n a0 w0 good i o)(cI:∀a w,r.rel w0 w->a.defers=a0.defers->a.tmps.size=a0.tmps.size->(∀t,vQ ops n a0 good t (a.eval (.tmp t)) w)->(∀j,j<n->∀l,ops[j]?=some l->l.dst=none->good j (a.eval (.tmp (iq l))) w)->wpList P ops Q (ops.toList.drop n) a w): ∀(f:Nat)(F:Array Bool)(a:Act)(w:World),((List.range n).filter fun i=>!F.getD i false).length=f->HeadInv .any ops n F->a1J r ops n a0 w0 good F a w ->wpAny P .any ops Q (f+(ops.size - n)) F a w:=by
 unfold jR at ht;simp only [Bool.and_eq_true,Bool.or_eq_true,beq_iff_eq]at ht;obtain⟨cJ,cL⟩:=ht;intro f
 induction f with | zero=>intro F a w hf a2 H;have a3:∀i,i<n->F.getD i false=true:=fun i N=>(by have h0:=ig hf;cases W:F.getD i false with | true=>rfl | false=>have:i∈(List.range n).filter fun i=>!F.getD i false:=List.mem_filter.2 ⟨List.mem_range.2 N,by simp only [W];rfl⟩;rw [h0]at this;cases this);have cR:=X.le;have cS:=a2.size;have W:F=Array.replicate n true++Array.replicate (ops.size - n) false:=(by apply Array.ext;(· simp;omega);· intro i h1 h2;by_cases O:i<n;(· have:=a3 i O;rw [Array.getElem_append_left (by simpa using O)];simpa [h1]using this);· have:=a2.tail i (by omega) (by omega);rw [Array.getElem_append_right (by simp;omega)];simpa [h1]using this);rw [et];have J:=cI a w H.ext H.defers H.size (fun t=>⟨fun j q l C J=>H.done j q (a3 j q) l C t J,fun Y=>H.old t (fun j q _ l C=>Y j q l C)⟩) (fun j q l C J=>H.kept j q (a3 j q) l C J);have:=wpAny_of_seq (md:=.any) (ops:=ops) (Q':=Q) (ops.toList.drop n) n F a w (fun j=>by simp [List.getElem?_drop]) (by rw [W,show(ops.toList.drop n).length=ops.size - n by simp];exact cL) J;rwa [show(ops.toList.drop n).length=ops.size - n by simp]at this | succ f ih=>intro F a w hf a2 H;have cR:=X.le;have cS:=a2.size;have cU:∃i,i<n/\F.getD i false=false:=(by cases b5:(List.range n).filter fun i=>!F.getD i false with | nil=>rw [b5]at hf;simp at hf | cons i r=>have:i∈(List.range n).filter fun i=>!F.getD i false:=(by rw [b5];exact fm);obtain⟨h1,h2⟩:=List.mem_filter.1 this;exact⟨i,List.mem_range.1 h1,by simpa using h2⟩);have cV:∀m,(∃i,i<=m/\i<n/\F.getD i false=false)->∃i,i<n/\F.getD i false=false/\∀j,j<i->F.getD j false=true:=(by intro m;induction m with | zero=>rintro⟨i,h0,N,W⟩;exact⟨i,N,W,fun j q=>by omega⟩ | succ m cX=>rintro⟨i,h0,N,W⟩;by_cases U:∃j,j<=m/\j<n/\F.getD j false=false;(· exact cX U);· refine⟨i,N,W,fun j q=>?_⟩;cases I:F.getD j false with | true=>rfl | false=>exact absurd ⟨j,by omega,by omega,I⟩ U);obtain⟨i0,b6,b7,d0⟩:∃i,i<n/\F.getD i false=false/\∀j,j<i->F.getD j false=true:=(by obtain⟨i,N,W⟩:=cU;exact cV i ⟨i,bh _,N,W⟩);obtain⟨o0,b8⟩:∃o,ops[i0]?=some o:=⟨ops[i0]'(by omega),Array.getElem?_eq_getElem (by omega)⟩;have b9:i0∈Region.ready .any ops F:=mem_ready.2 ⟨getD_in (by omega) b7,o0,b8,fun e G U=>d0 _ (X.back i0 o0 b6 b8 e G U)⟩;rw [show f+1+(ops.size - n)=(f+(ops.size - n))+1 by omega];refine⟨fun h=>(by rw [h]at b9;cases b9),fun i N=>?_⟩;have b0:=mem_ready.1 N;have O:i<n:=(by rcases Nat.lt_or_ge i n with h | h;(· exact h);· rcases cJ with G | ⟨hs,hc⟩;(· obtain⟨o,ho,_⟩:=b0.2;have:=(Array.getElem?_eq_some_iff.1 ho).1;omega);· have hn:n<ops.size:=(by obtain⟨o,ho,_⟩:=b0.2;have:=(Array.getElem?_eq_some_iff.1 ho).1;omega);exact absurd N (tail_waits hs hc hn a2 _ i0 rfl b6 (getD_in (by omega) b7) i h));obtain⟨d1,o,ho,a3⟩:=b0;have bB:F.getD i false=false:=getD_both d1;obtain⟨d2,e1,d3⟩:=a4 i o O ho;have d4:∀t∈eV ops o,vQ ops n a0 good t (a.eval (.tmp t)) w:=fun t ht=>(by refine⟨fun j q l C bS=>?_,fun Y=>H.old t (fun j q _ l C=>Y j q l C)⟩;obtain⟨e,G,U,b3⟩:=X.wait i o j l O q ho C t ht bS;exact H.done j q (by rw [<- b3];exact a3 e G U) l C t bS);unfold wpOp;simp only [ho];have d5:∀a6:Act->World->Prop,jg P ops o a w a6 Q->(if Region.wanted o (yielded ops a.tmps)=true then o.wp P a w a6 Q\/(o.asks P a w/\LetsOut Q)else a6 (a.put o.dst undef) w):=fun a6 h=>(by unfold jg at h;split;(· rename_i c;rw [ax c]at h;exact .inl h);· rename_i c;rw [ao c]at h;exact h);refine d5 _ (oP ?_ (d3 a w H.ext d4));rintro e2 b4⟨v,rfl,a1,d6,d7⟩;have a7:=WU a1;have cD:∀j,j<n->(F.setIfInBounds i true).getD j false=true->∀l,ops[j]?=some l->∀e∈l.after,Region.binds .any e=true->(F.setIfInBounds i true).getD e.on false=true:=fun j q I l C e G U=>(by have up:∀k,F.getD k false=true->(F.setIfInBounds i true).getD k false=true:=fun k d8=>getD_set_true d8;by_cases hji:j=i;(· subst hji;have:l=o:=bc (C.symm.trans ho);subst this;exact up _ (a3 e G U));· rw [getD_set_ne false (Ne.symm hji)]at I;exact up _ (H.clo j q I l C e G U));refine ih (F.setIfInBounds i true) _ b4 ?_ (a2.set N O) ?_;(· have:=FL (p:=fun j=>!F.getD j false) (q:=fun j=>!(F.setIfInBounds i true).getD j false) O (by simp only [bB];rfl) (by have:(F.setIfInBounds i true).getD i false=true:=(by simp [show i<F.size by omega]);simp only [this];rfl) (fun j q=>by simp only [getD_set_ne false (Ne.symm q)]);omega);· cases J:o.dst with | none=>rw [RO];have hS:r.st (jb o) w b4:=(by unfold jy at a1;rw [J]at a1;exact a1);refine⟨r.tr H.ext a7,H.defers,H.size,cD,fun j q I l C e G=>?_,fun j q I l C G=>?_,fun t Y=>?_⟩;(· by_cases hji:j=i;(· subst hji;have:l=o:=bc (C.symm.trans ho);subst this;rw [J]at G;cases G);· rw [getD_set_ne false (Ne.symm hji)]at I;obtain⟨_,K,_⟩:=a4 j l q C;unfold stb at K;rw [G]at K;exact K _ _ _ a7 (H.done j q I l C e G));(· by_cases hji:j=i;(· subst hji;have:l=o:=bc (C.symm.trans ho);subst this;exact d7 J);· rw [getD_set_ne false (Ne.symm hji)]at I;obtain⟨_,K,_⟩:=a4 j l q C;unfold stb at K;rw [G]at K;have hT:jb o≠jb l:=(by rcases X.one i o j l O q ho C hji with h | h;(· exact Ne.symm h.2.2);· exact absurd (G.trans J.symm) h);exact K.2 _ hT _ _ _ hS (H.kept j q I l C G));· exact H.old t fun j q I l C=>Y j q (getD_set_true I) l C | some d=>have dA:=d2 d J;have hE:r.dx w b4:=(by unfold jy at a1;rw [J]at a1;exact a1);refine⟨r.tr H.ext a7,H.defers,by simp [Act.put,H.size],cD,fun j q I l C e G=>?_,fun j q I l C G=>?_,fun t Y=>?_⟩;(· by_cases hji:j=i;(· subst hji;have:l=o:=bc (C.symm.trans ho);subst this;have:e=d:=bc (G.symm.trans J);subst this;rw [bF (by rw [H.size];exact dA)];exact d6 _ J);· rw [getD_set_ne false (Ne.symm hji)]at I;have a5:d≠e:=fun h=>(by rcases X.one i o j l O q ho C hji with a8 | a8;(· rw [G]at a8;cases a8.1);· exact a8 (by rw [G,J,h]));rw [eZ a5];obtain⟨_,K,_⟩:=a4 j l q C;unfold stb at K;rw [G]at K;exact K _ _ _ a7 (H.done j q I l C e G));(· by_cases hji:j=i;(· subst hji;have:l=o:=bc (C.symm.trans ho);subst this;rw [J]at G;cases G);· rw [getD_set_ne false (Ne.symm hji)]at I;have a5:d≠iq l:=fun h=>(by obtain⟨e,e0,U,b3⟩:=X.wait j l i o q O C ho (iq l) (X.ptr j l q C G) (by rw [J,h]);have:=H.clo j q I l C e e0 U;rw [b3,bB]at this;cases this);rw [eZ a5];obtain⟨_,K,_⟩:=a4 j l q C;unfold stb at K;rw [G]at K;exact K.1 _ _ _ hE (H.kept j q I l C G));· have a5:d≠t:=fun h=>Y i O (by simp [show i<F.size by omega]) o ho (by rw [J,h]);rw [eZ a5];exact H.old t fun j q I l C=>Y j q (getD_set_true I) l C
theorem sC {n:Nat}{a0:Act}{w0:World}{R:Act->World->Prop} (hk:rI ops n) :
 ∀ (rest:List Oper) (k:Nat) (a:Act) (N ss:List (Nat × aM)) (gs:List aM),k+rest.length=n->(∀ j,j<rest.length->rest[j]?=ops[k+j]?)->JX ops n a0 k a N gs ->
  (∀ q ∈ ss,∃ j l,j<k/\ops[j]?=some l/\l.dst=none/\q.1=iq l/\q.2=gs.getD j (fun _ _=>True))->wpX r P ops Q w0 R ss rest a N ->
  ∃ a2:List aM,(∀ j,j<k->a2.getD j (fun _ _=>True)=gs.getD j (fun _ _=>True))/\(∀ i o,k<=i->i<n->ops[i]?=some o->Ob r P ops Q n a0 w0 (fun j=>a2.getD j (fun _ _=>True)) i o) /\
   (∀ C w,r.rel w0 w->C.defers=a0.defers->C.tmps.size=a0.tmps.size->(∀ t,vQ ops n a0 (fun j=>a2.getD j (fun _ _=>True)) t (C.eval (.tmp t)) w)->(∀ j,j<n->∀ l,ops[j]?=some l->l.dst=none->a2.getD j (fun _ _=>True) (C.eval (.tmp (iq l))) w)->R C w)
 | [],k,a,N,ss,gs,b6,_,J,b7,h=>by
   have a5:k=n:=by simpa using b6
   subst a5
   refine ⟨gs,fun _ _=>rfl,fun i o K O _=>by omega,fun C w he I hz b0 a6=>h C w he (I.trans J.defers.symm) (hz.trans J.size.symm) (fun t=>J.slot t _ _ (b0 t).1 (b0 t).2) fun q hq=>?_⟩
   obtain ⟨j,l,F,H,U,Y,e2⟩:=b7 q hq
   rw [Y,e2]
   exact a6 j F l H U
 | o::rest,k,a,N,ss,gs,b6,hl,J,b7,h=>by
   simp only [dq] at b6
   have a5:k<n:=by omega
   have h0:ops[k]?=some o:=by simpa using (hl 0 (by simp)).symm
   have cU:∀ j,j<rest.length->rest[j]?=ops[k+1+j]?:=fun j F=>by
    have:=hl (j+1) (by simp;omega)
    simpa [ch,Nat.add_comm 1 j] using this
   have a7:∀ (g:aM) j,j<k->(gs++[g]).getD j (fun _ _=>True)=gs.getD j (fun _ _=>True):=fun g j F=>by
    simp [List.getD_eq_getElem?_getD,List.getElem?_append_left (show j<gs.length by rw [J.len];exact F)]
   have b8:∀ g:aM,(gs++[g]).getD k (fun _ _=>True)=g:=fun g=>by
    simp [List.getD_eq_getElem?_getD,<- J.len]
   have hJ:∃ (g:aM) (a1:Act) (a3 b3:List (Nat × aM)),(∀ d,o.dst=some d->d<a0.tmps.size)/\stb r o g /\
    (∀ C w,r.rel w0 w->(∀ t ∈ eV ops o,dN a N t (C.eval (.tmp t)) w)->jg P ops o C w (fun a4 G=>∃ v,a4=C.put o.dst v/\jy r o w G/\(∀ d,o.dst=some d->g v G)/\(o.dst=none->g (C.eval (.tmp (iq o))) G)) Q) /\
    JX ops n a0 (k+1) a1 a3 (gs++[g])/\(∀ q ∈ b3,∃ j l,j<k+1/\ops[j]?=some l/\l.dst=none/\q.1=iq l/\q.2=(gs++[g]).getD j (fun _ _=>True))/\wpX r P ops Q w0 R b3 rest a1 a3:=by
    have b9:∀ (g:aM) (q:Nat × aM),q ∈ ss->∃ j l,j<k+1/\ops[j]?=some l/\l.dst=none/\q.1=iq l/\q.2=(gs++[g]).getD j (fun _ _=>True):=fun g q hq=>by
     obtain ⟨j,l,F,H,U,Y,e2⟩:=b7 q hq
     exact ⟨j,l,by omega,H,U,Y,by rw [a7 g j F];exact e2⟩
    rcases h with ⟨d,g,I,cD,a6,a8,bB⟩ | ⟨q,I,a6,cV,a8,bB⟩
    · have bS:∀ w G,r.dx w G->jy r o w G:=fun w G h=>by unfold jy;rw [I];exact h
      have cI:∀ C w,r.rel w0 w->(∀ t ∈ eV ops o,dN a N t (C.eval (.tmp t)) w)->jg P ops o C w (fun a4 G=>∃ v,a4=C.put o.dst v/\jy r o w G/\(∀ d,o.dst=some d->g v G)/\(o.dst=none->g (C.eval (.tmp (iq o))) G)) Q:=fun C w K O =>
       oP (fun a4 G ⟨v,Y,e2,e3⟩=>⟨v,Y,bS _ _ e2,fun _ _=>e3,fun q=>by rw [I] at q;cases q⟩) (a8 C w K O)
      have b4:stb r o g:=by unfold stb;rw [I];exact a6
      have b5:∀ d',o.dst=some d'->d'<a0.tmps.size:=fun d' h=>by
       have:d'=d:=bc (h.symm.trans I)
       rw [this,<- J.size];exact cD
      have cX:∀ W,N.lookup d=some W->False:=fun W d0=>by
       obtain ⟨j,l,F,H,U⟩:=J.keys d W d0
       rcases hk.one k o j l a5 (by omega) h0 H (by omega) with q | q
       · rw [I] at q;cases q.2.1
       · exact q (by rw [U,I])
      have d1:N.lookup d=none:=by
       cases hc:N.lookup d with
       | none=>rfl
       | some W=>exact (cX W hc).elim
      have cJ:∀ u w,(∀ j,j<k+1->∀ l,ops[j]?=some l->l.dst=some d->((gs++[g]).getD j (fun _ _=>True)) u w)->g u w:=fun u w K=>by
       have:=K k (by omega) o h0 I
       rwa [b8] at this
      have cL:∀ t u w,d≠t->(∀ j,j<k+1->∀ l,ops[j]?=some l->l.dst=some t->((gs++[g]).getD j (fun _ _=>True)) u w)->((∀ j,j<k+1->∀ l,ops[j]?=some l->l.dst≠some t)->u=a0.eval (.tmp t))->dN a N t u w:=fun t u w X K O =>
       J.slot t u w (fun j F l H U=>by have:=K j (by omega) l H U;rwa [a7 g j F] at this) (fun hn=>O fun j F l H=>by
        by_cases hjk:j=k
        · subst hjk
          have:l=o:=bc (H.symm.trans h0)
          subst this
          rw [I];intro he;exact X (bc he)
        · exact hn j (by omega) l H)
      rcases bB with ⟨v,hg,hx⟩ | hx
      · refine ⟨g,a.put (some d) v,N,ss,b5,b4,cI,⟨by simp [J.len],J.defers,by simp [Act.put,J.size],fun t W ht=>?_,fun t u w K O=>?_⟩,b9 g,hx⟩
        · obtain ⟨j,l,F,r⟩:=J.keys t W ht
          exact ⟨j,l,by omega,r⟩
        · by_cases X:d=t
          · subst X
            have:=cJ u w K
            rw [hg] at this
            unfold dN
            rw [d1]
            simp only [bF cD]
            exact this
          · have:=cL t u w X K O
            unfold dN at *
            cases hc:N.lookup t with
            | some W=>simp only [hc] at this ⊢;exact this
            | none=>simp only [hc] at this ⊢;rw [eZ X];exact this
      · refine ⟨g,a.put (some d) undef,(d,g)::N,ss,b5,b4,cI,⟨by simp [J.len],J.defers,by simp [Act.put,J.size],fun t W ht=>?_,fun t u w K O=>?_⟩,b9 g,hx⟩
        · by_cases X:t=d
          · subst X;exact ⟨k,o,by omega,h0,I⟩
          · have e:(t == d)=false:=by simpa using X
            simp only [List.lookup_cons,e] at ht
            obtain ⟨j,l,F,r⟩:=J.keys t W ht
            exact ⟨j,l,by omega,r⟩
        · by_cases X:d=t
          · subst X
            unfold dN
            simp only [List.lookup_cons,beq_self_eq_true]
            exact cJ u w K
          · have:=cL t u w X K O
            have e:(t == d)=false:=by simpa using fun h=>X h.symm
            unfold dN at *
            simp only [List.lookup_cons,e]
            cases hc:N.lookup t with
            | some W=>simp only [hc] at this ⊢;exact this
            | none=>simp only [hc] at this ⊢;rw [eZ X];exact this
    · have bS:∀ w G,r.st (jb o) w G->jy r o w G:=fun w G h=>by unfold jy;rw [I];exact h
      refine ⟨q,a,N,(iq o,q)::ss,fun d' h=>(by rw [I] at h;cases h),(by unfold stb;rw [I];exact ⟨a6,cV⟩),fun C w K O=>oP (fun a4 G ⟨v,Y,e2,e3⟩=>⟨v,Y,bS _ _ e2,fun d' h=>(by rw [I] at h;cases h),fun _=>e3⟩) (a8 C w K O),
       ⟨by simp [J.len],J.defers,J.size,fun t W ht=>?_,fun t u w K O=>?_⟩,fun p hp=>?_,bB⟩
      · obtain ⟨j,l,F,r⟩:=J.keys t W ht
        exact ⟨j,l,by omega,r⟩
      · exact J.slot t u w (fun j F l H U=>by have:=K j (by omega) l H U;rwa [a7 q j F] at this) (fun hn=>O fun j F l H=>by
         by_cases hjk:j=k
         · subst hjk
           have:l=o:=bc (H.symm.trans h0)
           subst this
           rw [I];intro he;cases he
         · exact hn j (by omega) l H)
      · rcases List.mem_cons.1 hp with rfl | hp
        · exact ⟨k,o,by omega,h0,I,rfl,(b8 q).symm⟩
        · exact b9 q p hp
   obtain ⟨g,a1,a3,b3,b5,b4,a8,J1,d2,d3⟩:=hJ
   obtain ⟨a2,Y,e2,e3⟩:=sC hk rest (k+1) a1 a3 b3 (gs++[g]) (by omega) cU J1 d2 d3
   refine ⟨a2,fun j F=>by rw [Y j (by omega),a7 g j F],fun i oi K O cR=>?_,e3⟩
   by_cases hik:i=k
   · subst hik
     have:oi=o:=bc (cR.symm.trans h0)
     subst this
     have cS:a2.getD i (fun _ _=>True)=g:=by rw [Y i (by omega),b8]
     refine ⟨b5,by show stb r oi (a2.getD i (fun _ _=>True));rw [cS];exact b4,fun C w he b0=>?_⟩
     show jg P ops oi C w (fun a4 G=>∃ v,a4=C.put oi.dst v/\jy r oi w G/\(∀ d,oi.dst=some d->a2.getD i (fun _ _=>True) v G)/\(oi.dst=none->a2.getD i (fun _ _=>True) (C.eval (.tmp (iq oi))) G)) Q
     rw [cS]
     refine a8 C w he fun t ht=>?_
     have a3:=b0 t ht
     refine J.slot t _ _ (fun j F l H U=>?_) (fun hn=>a3.2 fun j F l H U=>?_)
     · have:=a3.1 j (by omega) l H U
       simp only [Y j (by omega),a7 g j F] at this
       exact this
     · obtain ⟨e,he,hb,d4⟩:=hk.wait i oi j l a5 F h0 H t ht U
       have:=hk.back i oi a5 h0 e he hb
       exact hn j (by omega) l H U
   · exact e2 i oi (by omega) O cR
theorem xB {a:Act}{w:World}{l:List Oper}(n:Nat)(C:(iX l.toArray n&&jR l.toArray n)=true)(h:wpX r P l.toArray Q w (fun I w'=>wpList P l.toArray Q (l.drop n) I w') [] (l.take n) a []):wpAny P .any l.toArray Q l.toArray.size (Array.replicate l.toArray.size false) a w:=by
 simp only [Bool.and_eq_true]at C;have F:=uK C.1;have Y:n<=l.length:=by simpa using F.le
 have H:(l.take n).length=n:=by simp;omega
 obtain⟨gs,_,J,K⟩:=sC (a0:=a) F (l.take n) 0 a [] [] [] (by rw [H];omega) (fun j G=>by rw [H]at G;simp [G]) ⟨rfl,rfl,rfl,fun t g h=>(by cases h),fun t v w' _ N=>N (fun j G=>by omega)⟩ (fun a1 O=>by cases O) h;have:=xN (P:=P) (Q:=Q) (n:=n) (a0:=a) (w0:=w) (good:=fun j=>gs.getD j (fun _ _=>True)) F C.2 (fun i o U ho=>J i o (de _) U ho) K (((List.range n).filter fun i=>!(Array.replicate l.toArray.size false).getD i false).length) (Array.replicate l.toArray.size false) a w rfl ⟨by simp,fun j oj _ q=>(by rw [getD_replicate_false]at q;cases q),fun t _ W=>getD_in (by simpa using W) (getD_replicate_false _ _)⟩ ⟨r.refl _,rfl,rfl,fun j _ q=>(by rw [getD_replicate_false]at q;cases q),fun j _ q=>(by rw [getD_replicate_false]at q;cases q),fun j _ q=>(by rw [getD_replicate_false]at q;cases q),fun t _=>rfl⟩;have X:((List.range n).filter fun i=>!(Array.replicate l.toArray.size false).getD i false).length=n:=by have:((List.range n).filter fun i=>!(Array.replicate l.toArray.size false).getD i false)=List.range n:=List.filter_eq_self.2 fun i _=>(by rw [getD_replicate_false];rfl);rw [this,List.length_range]
 rw [X]at this;rw [show n+(l.toArray.size - n)=l.toArray.size by simp;omega]at this;exact this
theorem aL {id:Nat}{a:Act}{w:World}{l:List Oper}(n:Nat)(C:P.follows .mixedOrders=true)(F:(iX l.toArray n&&jR l.toArray n)=true)(h:∀q,r.rel w q->wpX r P l.toArray Q q (fun G w'=>wpList P l.toArray Q (l.drop n) G w') [] (l.take n) a []):(Code.region id l.toArray true).wp P Q a w:=wp_region_any C (xB n F (h w.drew (r.ext (aa _ _).drew)))
end
section
variable {r:Rl}{P:Program}{ops:Array Oper}{Q:Exit->Act->World->Prop}{w0:World}{R:Act->World->Prop}{ss:List (Nat × aM)}{o:Oper}{rest:List Oper}{a:Act}{hs:List (Nat × aM)}{d:Nat}
theorem dW(hg:mC ops o a hs)(l:o.dst=some d)(q:Nat.blt d a.tmps.size=true)(C:wpX r P ops Q w0 R ss rest (a.put (some d) undef) hs):wpX r P ops Q w0 R ss (o::rest) a hs:= .inl ⟨d,fun u _=>u=undef,l,cQ q,r.stable_eq _,fun G w H F=>xQ hg F ⟨undef,rfl,r.dxe (aa _ _),rfl⟩,.inl ⟨undef,rfl,C⟩⟩
theorem jX(hg:eC ops o a hs)(H:o.dst=some d)(J:Nat.blt d a.tmps.size=true)(N:iY o=true)(O:bC o=true)(U:gO o hs=true)(h:∀K:Act->Prop,(∀a,wpX r P ops Q w0 R ss rest a hs->K a)->o.quiet P a (fun w'=>∃m:r.Lt w0,w'=m.1) K):wpX r P ops Q w0 R ss (o::rest) a hs:=by obtain⟨v,W,I⟩:=h _ (fun _ h=>h);rw [H]at I;refine .inl ⟨d,fun u _=>u=v,H,cQ J,r.stable_eq v,fun X w Y q=>?_,.inl ⟨v,rfl,I⟩⟩;refine kT hg q fun q=>?_;have l:=W w ⟨⟨w,Y⟩,rfl⟩;have h4:execOp X.eval o=execOp a.eval o:=fY (dJ O) (jJ U q);unfold Oper.quietAt at l;unfold Oper.wp;rw [h4];have a0:=fun w' f C=>kU (P:=P) (ρ:=a.eval) (o:=o) N (w:=w) (w':=w') (f:=f) (args:=C);generalize(execOp a.eval o).run P w=r at*;cases r with | ok n w' =>cases n<;>simp only [Oper.quietUpon]at l<;>simp only [Oper.upon];(case value u=>obtain⟨F,G⟩:=l;exact⟨u,rfl,by rw [F];exact r.dxe (aa _ _),G⟩);(case skip=>obtain⟨F,G⟩:=l;exact⟨undef,rfl,by rw [F];exact r.dxe (aa _ _),G.symm⟩);case enter f C=>exact absurd rfl (a0 w' f C) | halt x w'=>simp only [Oper.quietUpon]at l
def NH(ops:Array Oper)(o:Oper)(a:Act)(hs:List (Nat×aM)):Bool:=gB ops o a hs&&((match o.dst with | some d=>Nat.blt d a.tmps.size | none=>false)&&(iY o&&(bC o&&gO o hs)))
theorem aB(l:NH ops o a hs=true)(h:∀K:Act->Prop,(∀a,wpX r P ops Q w0 R ss rest a hs->K a)->o.quiet P a (fun w'=>∃m:r.Lt w0,w'=m.1) K):wpX r P ops Q w0 R ss (o::rest) a hs:=by
 unfold NH at l;simp only [Bool.and_eq_true]at l;obtain⟨C,q,F,G,H⟩:=l;split at q;· rename_i d I;exact jX (gR C) I q F G H h
 · cases q
theorem jY(hg:eC ops o a hs)(g:aM)(I:r.stable g)(F:o.dst=some d)(H:Nat.blt d a.tmps.size=true)(J:bC o=true)(N:gO o hs=true)(h:∀(m:r.Lt w0)(K:Act->World->Prop),(∀q l,q.defers=a.defers->(r.dx m.1 l/\g (q.eval (.tmp d)) l)->K q l)->o.wp P a m.1 K (fun _ _ _=>False))(O:wpX r P ops Q w0 R ss rest (a.put (some d) undef) ((d,g)::hs)):wpX r P ops Q w0 R ss (o::rest) a hs:= .inl ⟨d,g,F,cQ H,I,fun Y w U C=>kT hg C fun C=>Oper.wp_mono (fun q l⟨v,W,X⟩=>⟨v,W,X⟩) (gG (G:=fun v l=>r.dx w l/\g v l) (fY (dJ J) (jJ N C)) F (cQ H) (h ⟨w,U⟩)),.inr O⟩
theorem iB(hg:eC ops o a hs)(v:Value)(F:o.dst=some d)(H:Nat.blt d a.tmps.size=true)(I:bC o=true)(J:gO o hs=true)(h:∀(m:r.Lt w0)(K:Act->World->Prop),(∀q l,q.defers=a.defers->(r.dx m.1 l/\q.eval (.tmp d)=v)->K q l)->o.wp P a m.1 K (fun _ _ _=>False))(N:wpX r P ops Q w0 R ss rest (a.put (some d) v) hs):wpX r P ops Q w0 R ss (o::rest) a hs:= .inl ⟨d,fun u _=>u=v,F,cQ H,r.stable_eq v,fun X w O C=>kT hg C fun C=>Oper.wp_mono (fun q l⟨v,U,W⟩=>⟨v,U,W⟩) (gG (G:=fun u l=>r.dx w l/\u=v) (fY (dJ I) (jJ J C)) F (cQ H) (h ⟨w,O⟩)),.inl ⟨v,rfl,N⟩⟩
theorem DJ(hg:eC ops o a hs)(t1:Nat)(p:aM)(v:Value)(I:o.dst=some d)(J:Nat.blt d a.tmps.size=true)(N:bC o=true)(O:hs.lookup t1=some p)(U:sF o hs t1=true)(W:(bI o).contains t1=true)(X:Nat.blt t1 a.tmps.size=true)(h:∀(m:r.Lt w0)(u:Value),p u m.1->∀(K:Act->World->Prop),(∀q l,q.defers=a.defers->(r.dx m.1 l/\q.eval (.tmp d)=v)->K q l)->o.wp P (a.put (some t1) u) m.1 K (fun _ _ _=>False))(Y:wpX r P ops Q w0 R ss rest (a.put (some d) v) hs):wpX r P ops Q w0 R ss (o::rest) a hs:= .inl ⟨d,fun u _=>u=v,I,cQ J,r.stable_eq v,fun a' w he C=>kT hg C fun C=>by obtain⟨F,H⟩:=CD U (by simpa using W) (cQ X) O C;exact Oper.wp_mono (fun q l⟨v,F,H⟩=>⟨v,F,H⟩) (gG (G:=fun u l=>r.dx w l/\u=v) (fY (dJ N) H) I (by simpa [Act.put]using cQ J) (h ⟨w,he⟩ _ F)),.inl ⟨v,rfl,Y⟩⟩
theorem cB(hg:eC ops o a hs)(v:Value){f:FuncId}{x:Operand}{xs:Array Operand}{I:Array TypeId}{args:List Value}(q:o.dst=some d)(H:Nat.blt d a.tmps.size=true)(ho:o.op=.call {callee:=.value x,args:=xs,argTypes:=I})(J:a.eval x=.func (.func f) #[] #[])(N:iH P f=true)(O:xs.toList.map a.eval=args)(U:gO o hs=true)(h:∀m:r.Lt w0,Calls P f args.toArray m.1 fun e l=>e=.returned v/\r.dx m.1 l)(W:wpX r P ops Q w0 R ss rest (a.put (some d) v) hs):wpX r P ops Q w0 R ss (o::rest) a hs:=iB hg v q H (by unfold bC;rw [ho]) U (fun m K X=>iP (G:=fun u l=>u=v/\r.dx m.1 l) ho J N O ((h m).mono fun e l⟨C,F⟩=>⟨v,C,rfl,F⟩) (fun u l⟨C,F⟩=>X _ _ (by rw [q];rfl) ⟨F,by rw [q,bF (cQ H)];exact C⟩)) W
theorem cZ(hg:eC ops o a hs)(g:aM)(H:r.stable g){f:FuncId}{x:Operand}{xs:Array Operand}{I:Array TypeId}{args:List Value}(q:o.dst=some d)(C:Nat.blt d a.tmps.size=true)(ho:o.op=.call {callee:=.value x,args:=xs,argTypes:=I})(J:a.eval x=.func (.func f) #[] #[])(N:iH P f=true)(O:xs.toList.map a.eval=args)(U:gO o hs=true)(h:∀m:r.Lt w0,Calls P f args.toArray m.1 fun e l=>∃v,e=.returned v/\r.dx m.1 l/\g v l)(W:wpX r P ops Q w0 R ss rest (a.put (some d) undef) ((d,g)::hs)):wpX r P ops Q w0 R ss (o::rest) a hs:=jY hg g H q C (by unfold bC;rw [ho]) U (fun m K X=>iP (G:=fun u l=>r.dx m.1 l/\g u l) ho J N O (h m) (fun u l F=>X _ _ (by rw [q];rfl) ⟨F.1,by rw [q,bF (cQ C)];exact F.2⟩)) W
theorem P7:type_of% @cZ:=@cZ
theorem gH(hg:eC ops o a hs)(t1:Nat)(p:aM)(v:Value){f:FuncId}{x:Operand}{xs:Array Operand}{I:Array TypeId}(args:Value->List Value)(q:o.dst=some d)(H:Nat.blt d a.tmps.size=true)(ho:o.op=.call {callee:=.value x,args:=xs,argTypes:=I})(J:hs.lookup t1=some p)(K:sF o hs t1=true)(N:(bI o).contains t1=true)(O:Nat.blt t1 a.tmps.size=true)(U:∀u,(a.put (some t1) u).eval x=.func (.func f) #[] #[])(W:iH P f=true)(X:∀u,xs.toList.map (a.put (some t1) u).eval=args u)(h:∀(m:r.Lt w0)(u:Value),p u m.1->Calls P f (args u).toArray m.1 fun e l=>e=.returned v/\r.dx m.1 l)(Y:wpX r P ops Q w0 R ss rest (a.put (some d) v) hs):wpX r P ops Q w0 R ss (o::rest) a hs:=DJ hg t1 p v q H (by unfold bC;rw [ho]) J K N O (fun m u hu a0 hK=>iP (G:=fun u l=>u=v/\r.dx m.1 l) ho (U u) W (X u) ((h m u hu).mono fun e l⟨C,F⟩=>⟨v,C,rfl,F⟩) (fun u' l⟨C,F⟩=>hK _ _ (by rw [q];rfl) ⟨F,by rw [q,bF (by simpa [Act.put]using cQ H)];exact C⟩)) Y
theorem bY {a:Act}{hs:List (Nat×aM)}(h:∀(m:r.Lt w0)(f:Nat->Value),(∀t p,hs.lookup t=some p->p (f t) m.1)->(∀q∈ss,q.2 ((bQ a hs f).eval (.tmp q.1)) m.1)->R (bQ a hs f) m.1):wpX r P ops Q w0 R ss [] a hs:=fun l w K F N G H=>by have:l=bQ a hs (fun t=>l.eval (.tmp t)):=(by have k1:=fA a (fun t=>l.eval (.tmp t)) hs;have I:=eU a (fun t=>l.eval (.tmp t)) hs;have J:=oN a (fun t=>l.eval (.tmp t)) hs;generalize bQ a hs (fun t=>l.eval (.tmp t))=b at*;obtain⟨t,d⟩:=a;obtain⟨U,W⟩:=l;obtain⟨X,Y⟩:=b;simp only at F N k1 I J;subst F I;congr 1;apply Array.ext (by omega);intro i g1 g2;have q:=G i;rw [J i g2 (by omega)];cases C:hs.lookup i with | some p=>simp [Act.eval,g1] | none=>have O:i<t.size:=(by omega);simp only [dN,C]at q;simpa [Act.eval,g1,O]using q);rw [this]at H;rw [this];refine h ⟨w,K⟩ _ (fun t p C=>?_) H;have:=G t;simpa only [dN,C]using this
theorem RP {a:Act}(h:∀m:r.Lt w0,R a m.1):wpX r P ops Q w0 R ss [] a []:=bY fun m _ _ _=>h m
theorem rJ {a:Act}{hs:List (Nat×aM)}(h:∀(m:r.Lt w0)(f:Nat->Value),(∀t p,hs.lookup t=some p->p (f t) m.1)->R (bQ a hs f) m.1):wpX r P ops Q w0 R ss [] a hs:=bY fun m f l _=>h m f l
theorem lJ {a:Act}{t1:Nat}{p1:aM}(h:∀(m:r.Lt w0)(u:Value),p1 u m.1->R (a.put (some t1) u) m.1):wpX r P ops Q w0 R ss [] a [(t1,p1)]:=rJ fun m f l=>h m (f t1) (l t1 p1 (by simp))
theorem oM {a:Act}{t1 t2:Nat}{p1 p2:aM}(q:t1≠t2)(h:∀(m:r.Lt w0)(u1 u2:Value),p1 u1 m.1->p2 u2 m.1->R ((a.put (some t1) u1).put (some t2) u2) m.1):wpX r P ops Q w0 R ss [] a [(t2,p2),(t1,p1)]:=rJ fun m f l=>h m (f t1) (f t2) (l t1 p1 (by simp [List.lookup_cons,beq_false_of_ne q])) (l t2 p2 (by simp))
theorem oO {a:Act}{t1 t2 t3:Nat}{p1 p2 p3:aM}(q:t1≠t2)(C:t1≠t3)(F:t2≠t3)(h:∀(m:r.Lt w0)(u1 u2 u3:Value),p1 u1 m.1->p2 u2 m.1->p3 u3 m.1->R (((a.put (some t1) u1).put (some t2) u2).put (some t3) u3) m.1):wpX r P ops Q w0 R ss [] a [(t3,p3),(t2,p2),(t1,p1)]:=rJ fun m f l=>h m (f t1) (f t2) (f t3) (l t1 p1 (by simp [List.lookup_cons,beq_false_of_ne q,beq_false_of_ne C])) (l t2 p2 (by simp [List.lookup_cons,beq_false_of_ne F])) (l t3 p3 (by simp))
theorem NI(b:Act)(t:Nat)(h:t<b.tmps.size):b.eval (.tmp t)=b.tmps[t]:=by simp [Act.eval,h]
theorem rK {o:Oper}{a l:Act}{hs:List (Nat×aM)}{w:World}(K:l.tmps.size=a.tmps.size\/True)(H:(bI o).all (fun t=>Nat.blt t a.tmps.size)=true)(h:∀t∈bI o,dN a hs t (l.eval (.tmp t)) w): ∀t∈bI o,l.eval (.tmp t)=(bQ a hs (fun t=>l.eval (.tmp t))).eval (.tmp t):=fun t F=>by have q:=h t F;have C:t<a.tmps.size:=cQ (List.all_eq_true.1 H t F);have G:t<(bQ a hs (fun t=>l.eval (.tmp t))).tmps.size:=(by rw [fA];exact C);have I:=oN a (fun t=>l.eval (.tmp t)) hs t G C;rw [NI _ t G,I];unfold dN at q;cases J:hs.lookup t with | some p=>rfl | none=>rw [J]at q;simp only [Option.isSome_none,Bool.false_eq_true,if_false];rw [q,NI _ t C]
theorem xR(hg:eC ops o a hs)(g:aM)(I:r.stable g)(F:o.dst=some d)(H:Nat.blt d a.tmps.size=true)(J:bC o=true)(N:(bI o).all (fun t=>Nat.blt t a.tmps.size)=true)(h:∀(m:r.Lt w0)(f:Nat->Value),(∀t p,hs.lookup t=some p->(bI o).contains t=true->p (f t) m.1)->∀(K:Act->World->Prop),(∀q l,q.defers=a.defers->(r.dx m.1 l/\g (q.eval (.tmp d)) l)->K q l)->o.wp P (bQ a hs f) m.1 K (fun _ _ _=>False))(O:wpX r P ops Q w0 R ss rest (a.put (some d) undef) ((d,g)::hs)):wpX r P ops Q w0 R ss (o::rest) a hs:= .inl ⟨d,g,F,cQ H,I,fun U w W C=>kT hg C fun C=>by refine Oper.wp_mono (fun q l⟨v,X,Y⟩=>⟨v,X,Y⟩) (gG (G:=fun v l=>r.dx w l/\g v l) (fY (dJ J) (rK (.inr trivial) N C)) F (by rw [fA];exact cQ H) (fun K hK=>h ⟨w,W⟩ (fun t=>U.eval (.tmp t)) (fun t p hl hc=>?_) K (fun q l a0=>hK q l (by rw [eU];exact a0))));have:=C t (by simpa using hc);unfold dN at this;rw [hl]at this;exact this,.inr O⟩
theorem mO(hg:eC ops o a hs)(g:aM)(I:r.stable g){q:FuncId}{x:Operand}{xs:Array Operand}{J:Array TypeId}(args:(Nat->Value)->List Value)(C:o.dst=some d)(F:Nat.blt d a.tmps.size=true)(ho:o.op=.call {callee:=.value x,args:=xs,argTypes:=J})(K:(bI o).all (fun t=>Nat.blt t a.tmps.size)=true)(N:∀f,(bQ a hs f).eval x=.func (.func q) #[] #[])(O:iH P q=true)(U:∀f,xs.toList.map (bQ a hs f).eval=args f)(h:∀(m:r.Lt w0)(f:Nat->Value),(∀t p,hs.lookup t=some p->(bI o).contains t=true->p (f t) m.1)->Calls P q (args f).toArray m.1 fun e l=>∃v,e=.returned v/\r.dx m.1 l/\g v l)(W:wpX r P ops Q w0 R ss rest (a.put (some d) undef) ((d,g)::hs)):wpX r P ops Q w0 R ss (o::rest) a hs:=xR hg g I C F (by unfold bC;rw [ho]) K (fun m f X a0 Y=>iP (G:=fun u l=>r.dx m.1 l/\g u l) ho (N f) O (U f) (h m f X) (fun u' l H=>Y _ _ (by rw [C];show((bQ a hs f).put (some d) u').defers=_;simp [Act.put,eU]) ⟨H.1,by rw [C,bF (by rw [fA];exact cQ F)];exact H.2⟩)) W
end
section
variable {r:Rl}{P:Program}{ops:Array Oper}{Q:Exit->Act->World->Prop}{w0:World}{R:Act->World->Prop}{ss:List (Nat × aM)}{o:Oper}{rest:List Oper}{a:Act}{hs:List (Nat × aM)}{d:Nat}
theorem fK {a:Act}{hs:List (Nat×aM)}{f:Nat->Value}{x:Operand}(h:oE a x=true):(bQ a hs f).eval x=ja a hs f x:=RN (fA a f hs) (oN a f hs) h
theorem qR {a:Act}{hs:List (Nat×aM)}(f:Nat->Value)(n:Nat)(h:Nat.blt n a.tmps.size=true):n<(bQ a hs f).tmps.size:=by rw [fA];exact cQ h
theorem dX (hg:eC ops o a hs) (g:aM) (hst:r.stable g) (s:(Nat->Value)->Sem Value)
 (hd:o.dst=some d) (hz:Nat.blt d a.tmps.size=true) (hsel:bC o=true) (hin:(bI o).all (fun t=>Nat.blt t a.tmps.size)=true) (he:∀ f,execOp (bQ a hs f).eval o=(do pure (Next.value (<- s f))))
 (h:∀ (m:r.Lt w0) (f:Nat->Value),(∀ t p,hs.lookup t=some p->(bI o).contains t=true->p (f t) m.1)->∃ v w'',(s f).run P m.1=.ok v w''/\r.dx m.1 w''/\g v w'')
 (hr:wpX r P ops Q w0 R ss rest (a.put (some d) undef) ((d,g)::hs)):wpX r P ops Q w0 R ss (o::rest) a hs :=
 xR hg g hst hd hz hsel hin (fun m f hf K hK=>by
  obtain ⟨v,w'',h1,h2,h3⟩:=h m f hf
  exact uL (he f) h1 (hK _ _ (by rw [hd];show ((bQ a hs f).put (some d) v).defers=_;simp [Act.put,eU]) ⟨h2,by rw [hd,bF (qR f d hz)];exact h3⟩)) hr
theorem bD(hg:eC ops o a hs)(g:aM)(F:r.stable g){t:TypeId}{n:Nat}{ps:Array (Nat×Operand)}(l:(Nat->Value)->List (Nat×Value))(G:o.dst=some d)(H:Nat.blt d a.tmps.size=true)(ho:o.op=.buildSlice t n ps)(I:(bI o).all (fun t=>Nat.blt t a.tmps.size)=true)(J:(ps.toList.all fun q=>oE a q.2)=true)(K:∀f,(ps.toList.map fun q=>(q.1,ja a hs f q.2))=l f)(h:∀(m:r.Lt w0)(f:Nat->Value),(∀t p,hs.lookup t=some p->(bI o).contains t=true->p (f t) m.1)->∃v C,(Instr.buildSlice t n (l f).toArray).run P m.1=.ok v C/\r.dx m.1 C/\g v C)(N:wpX r P ops Q w0 R ss rest (a.put (some d) undef) ((d,g)::hs)):wpX r P ops Q w0 R ss (o::rest) a hs:=dX hg g F (fun f=>Instr.buildSlice t n (l f).toArray) G H (by unfold bC;rw [ho]) I (fun f=>by unfold execOp;simp only [ho];rw [<- K f,List.map_congr_left (fun q O=>by rw [<- fK (List.all_eq_true.1 J q O)]),<- List.map_toArray,Array.toArray_toList]) h N
theorem bV(hg:eC ops o a hs)(g:aM)(F:r.stable g){t:TypeId}{ps:Array (Nat×Operand)}(l:(Nat->Value)->List (Nat×Value))(G:o.dst=some d)(H:Nat.blt d a.tmps.size=true)(ho:o.op=.build t ps)(I:(bI o).all (fun t=>Nat.blt t a.tmps.size)=true)(J:(ps.toList.all fun q=>oE a q.2)=true)(K:∀f,(ps.toList.map fun q=>(q.1,ja a hs f q.2))=l f)(h:∀(m:r.Lt w0)(f:Nat->Value),(∀t p,hs.lookup t=some p->(bI o).contains t=true->p (f t) m.1)->∃v C,(Instr.build t (l f).toArray).run P m.1=.ok v C/\r.dx m.1 C/\g v C)(N:wpX r P ops Q w0 R ss rest (a.put (some d) undef) ((d,g)::hs)):wpX r P ops Q w0 R ss (o::rest) a hs:=dX hg g F (fun f=>Instr.build t (l f).toArray) G H (by unfold bC;rw [ho]) I (fun f=>by unfold execOp;simp only [ho];rw [<- K f,List.map_congr_left (fun q O=>by rw [<- fK (List.all_eq_true.1 J q O)]),<- List.map_toArray,Array.toArray_toList]) h N
theorem gN(hg:eC ops o a hs)(g:aM)(C:r.stable g){t1 t2:TypeId}{x:Operand}(l:(Nat->Value)->Value)(F:o.dst=some d)(G:Nat.blt d a.tmps.size=true)(ho:o.op=.convert t1 t2 x)(H:(bI o).all (fun t=>Nat.blt t a.tmps.size)=true)(I:oE a x=true)(J:∀f,ja a hs f x=l f)(h:∀(m:r.Lt w0)(f:Nat->Value),(∀t p,hs.lookup t=some p->(bI o).contains t=true->p (f t) m.1)->∃v q,(convert t1 t2 (l f)).run P m.1=.ok v q/\r.dx m.1 q/\g v q)(K:wpX r P ops Q w0 R ss rest (a.put (some d) undef) ((d,g)::hs)):wpX r P ops Q w0 R ss (o::rest) a hs:=dX hg g C (fun f=>convert t1 t2 (l f)) F G (by unfold bC;rw [ho]) H (fun f=>by unfold execOp;simp only [ho];rw [fK I,J f]) h K
theorem aR(hg:eC ops o a hs)(g:aM)(F:r.stable g){l:FuncId}{x:Operand}{xs:Array Operand}{G:Array TypeId}(args:(Nat->Value)->List Value)(H:o.dst=some d)(I:Nat.blt d a.tmps.size=true)(ho:o.op=.call {callee:=.value x,args:=xs,argTypes:=G})(J:(bI o).all (fun t=>Nat.blt t a.tmps.size)=true)(K:x=.func l)(N:iH P l=true)(O:(xs.toList.all fun q=>oE a q)=true)(U:∀f,xs.toList.map (ja a hs f)=args f)(h:∀(m:r.Lt w0)(f:Nat->Value),(∀t p,hs.lookup t=some p->(bI o).contains t=true->p (f t) m.1)->Calls P l (args f).toArray m.1 fun e C=>∃v,e=.returned v/\r.dx m.1 C/\g v C)(W:wpX r P ops Q w0 R ss rest (a.put (some d) undef) ((d,g)::hs)):wpX r P ops Q w0 R ss (o::rest) a hs:=mO hg g F args H I ho J (fun f=>by rw [K];rfl) N (fun f=>by rw [<- U f];exact List.map_congr_left (fun q X=>fK (List.all_eq_true.1 O q X))) h W
theorem fZ(hg:eC ops o a hs)(g:aM)(F:r.stable g){x:Operand}{l:Nat}(q:(Nat->Value)->Value)(G:o.dst=some d)(H:Nat.blt d a.tmps.size=true)(ho:o.op=.extract x l)(I:(bI o).all (fun t=>Nat.blt t a.tmps.size)=true)(J:oE a x=true)(K:∀f,ja a hs f x=q f)(h:∀(m:r.Lt w0)(f:Nat->Value),(∀t p,hs.lookup t=some p->(bI o).contains t=true->p (f t) m.1)->∃v C,(Instr.extract (q f) l).run P m.1=.ok v C/\r.dx m.1 C/\g v C)(N:wpX r P ops Q w0 R ss rest (a.put (some d) undef) ((d,g)::hs)):wpX r P ops Q w0 R ss (o::rest) a hs:=dX hg g F (fun f=>Instr.extract (q f) l) G H (by unfold bC;rw [ho]) I (fun f=>by unfold execOp;simp only [ho];rw [fK J,K f]) h N
end
section
variable {r:Rl}{P:Program}{ops:Array Oper}{Q:Exit->Act->World->Prop}{w0:World}{R:Act->World->Prop}{ss:List (Nat × aM)}{o:Oper}{rest:List Oper}{a:Act}{hs:List (Nat × aM)}{d:Nat}
theorem gV(hg:eC ops o a hs)(g:aM)(H:r.stable g){t:TypeId}{s x:Operand}(q C:(Nat->Value)->Value)(F:o.dst=some d)(G:Nat.blt d a.tmps.size=true)(ho:o.op=.call {callee:=.builtin .append,args:=#[s,x],argTypes:=#[t,t]})(I:(bI o).all (fun t=>Nat.blt t a.tmps.size)=true)(J:oE a s=true)(K:oE a x=true)(N:∀f,ja a hs f s=q f)(O:∀f,ja a hs f x=C f)(h:∀(m:r.Lt w0)(f:Nat->Value),(∀t p,hs.lookup t=some p->(bI o).contains t=true->p (f t) m.1)->∃v l,(Builtin.append_ #[t,t] o.type #[q f,C f]).run P m.1=.ok v l/\r.dx m.1 l/\g v l)(U:wpX r P ops Q w0 R ss rest (a.put (some d) undef) ((d,g)::hs)):wpX r P ops Q w0 R ss (o::rest) a hs:=xR hg g H F G (by unfold bC;rw [ho]) I (fun m f W a0 X=>by obtain⟨v,l,Y,h2,h3⟩:=h m f W;have e1:(bQ a hs f).eval s=q f:=(fK J).trans (N f);have e2:(bQ a hs f).eval x=C f:=(fK K).trans (O f);unfold Oper.wp execOp;simp only [ho,resolve,invoke,builtin,Sem.run_bind,Sem.run_pure,Result.andThen_ok,List.map_toArray,List.map_cons,List.map_nil,e1,e2,Y];refine X _ _ (by rw [F];show((bQ a hs f).put (some d) v).defers=_;simp [Act.put,eU]) ⟨h2,by rw [F,bF (qR f d G)];exact h3⟩) U
theorem eM(hg:eC ops o a hs)(ad:Addr){x:Operand}(l:o.dst=some d)(q:Nat.blt d a.tmps.size=true)(ho:o.op=.nilCheck x)(C:a.eval x=.pointer (some ad))(F:gO o hs=true)(G:wpX r P ops Q w0 R ss rest (a.put (some d) (.pointer (some ad))) hs):wpX r P ops Q w0 R ss (o::rest) a hs:=iB hg (.pointer (some ad)) l q (by unfold bC;rw [ho]) F (fun m K H=>by unfold Oper.wp execOp;simp only [ho,C,Sem.run_pure,Oper.upon];exact H _ _ (by rw [l];rfl) ⟨r.dxe (aa _ _),by rw [l,bF (cQ q)]⟩) G
theorem lD(hg:eC ops o a hs)(g:aM)(q:r.stable g){x:Operand}(l:(Nat->Value)->Value)(C:o.dst=some d)(F:Nat.blt d a.tmps.size=true)(ho:o.op=.move x)(G:(bI o).all (fun t=>Nat.blt t a.tmps.size)=true)(H:oE a x=true)(I:∀f,ja a hs f x=l f)(h:∀(m:r.Lt w0)(f:Nat->Value),(∀t p,hs.lookup t=some p->(bI o).contains t=true->p (f t) m.1)->g (l f) m.1)(J:wpX r P ops Q w0 R ss rest (a.put (some d) undef) ((d,g)::hs)):wpX r P ops Q w0 R ss (o::rest) a hs:=dX hg g q (fun f=>pure (l f)) C F (by unfold bC;rw [ho]) G (fun f=>by unfold execOp;simp only [ho];rw [fK H,I f];rfl) (fun m f K=>⟨_,_,rfl,r.dxe (aa _ _),h m f K⟩) J
theorem lK(hg:eC ops o a hs)(g:aM)(q:r.stable g){x:Operand}(l:(Nat->Value)->Value)(C:o.dst=some d)(F:Nat.blt d a.tmps.size=true)(ho:o.op=.assign x)(G:(bI o).all (fun t=>Nat.blt t a.tmps.size)=true)(H:oE a x=true)(I:∀f,ja a hs f x=l f)(h:∀(m:r.Lt w0)(f:Nat->Value),(∀t p,hs.lookup t=some p->(bI o).contains t=true->p (f t) m.1)->g (l f) m.1)(J:wpX r P ops Q w0 R ss rest (a.put (some d) undef) ((d,g)::hs)):wpX r P ops Q w0 R ss (o::rest) a hs:=dX hg g q (fun f=>pure (l f)) C F (by unfold bC;rw [ho]) G (fun f=>by unfold execOp;simp only [ho];rw [fK H,I f];rfl) (fun m f K=>⟨_,_,rfl,r.dxe (aa _ _),h m f K⟩) J
theorem RQ(hg:eC ops o a hs)(v:Value)(F:o.dst=some d)(H:Nat.blt d a.tmps.size=true)(I:bC o=true)(J:(bI o).all (fun t=>Nat.blt t a.tmps.size)=true)(h:∀(m:r.Lt w0)(f:Nat->Value),(∀t p,hs.lookup t=some p->(bI o).contains t=true->p (f t) m.1)->∀(K:Act->World->Prop),(∀q l,q.defers=a.defers->(r.dx m.1 l/\q.eval (.tmp d)=v)->K q l)->o.wp P (bQ a hs f) m.1 K (fun _ _ _=>False))(N:wpX r P ops Q w0 R ss rest (a.put (some d) v) hs):wpX r P ops Q w0 R ss (o::rest) a hs:= .inl ⟨d,fun u _=>u=v,F,cQ H,r.stable_eq v,fun O w U C=>kT hg C fun C=>by refine Oper.wp_mono (fun q l⟨v,W,X⟩=>⟨v,W,X⟩) (gG (G:=fun u l=>r.dx w l/\u=v) (fY (dJ I) (rK (.inr trivial) J C)) F (by rw [fA];exact cQ H) (fun K Y=>h ⟨w,U⟩ (fun t=>O.eval (.tmp t)) (fun t p hl hc=>?_) K (fun q l a0=>Y q l (by rw [eU];exact a0))));have:=C t (by simpa using hc);unfold dN at this;rw [hl]at this;exact this,.inl ⟨v,rfl,N⟩⟩
theorem mP(hg:eC ops o a hs)(v:Value){C:FuncId}{x:Operand}{xs:Array Operand}{J:Array TypeId}(args:(Nat->Value)->List Value)(F:o.dst=some d)(H:Nat.blt d a.tmps.size=true)(ho:o.op=.call {callee:=.value x,args:=xs,argTypes:=J})(K:(bI o).all (fun t=>Nat.blt t a.tmps.size)=true)(N:x=.func C)(O:iH P C=true)(U:(xs.toList.all fun q=>oE a q)=true)(W:∀f,xs.toList.map (ja a hs f)=args f)(h:∀(m:r.Lt w0)(f:Nat->Value),(∀t p,hs.lookup t=some p->(bI o).contains t=true->p (f t) m.1)->Calls P C (args f).toArray m.1 fun e l=>e=.returned v/\r.dx m.1 l)(X:wpX r P ops Q w0 R ss rest (a.put (some d) v) hs):wpX r P ops Q w0 R ss (o::rest) a hs:=RQ hg v F H (by unfold bC;rw [ho]) K (fun m f Y a0 hK=>iP (G:=fun u l=>r.dx m.1 l/\u=v) ho (by rw [N];rfl) O (by rw [<- W f];exact List.map_congr_left (fun q hm=>fK (List.all_eq_true.1 U q hm))) ((h m f Y).mono fun _ _⟨q1,q2⟩=>⟨v,q1,q2,rfl⟩) (fun u' l I=>hK _ _ (by rw [F];show((bQ a hs f).put (some d) u').defers=_;simp [Act.put,eU]) ⟨I.1,by rw [F,bF (by rw [fA];exact cQ H)];exact I.2⟩)) X
theorem dH {o:Oper}{rest:List Oper}{a:Act}{hs:List (Nat×aM)}(hg:eC ops o a hs)(q:aM){t:TypeId}{p:Nat}{x:Operand}(C:(Nat->Value)->Value)(H:(Nat->Value)->Value)(U:o.dst=none)(ho:o.op=.store t (.tmp p) x)(W:(bI o).all (fun t=>Nat.blt t a.tmps.size)=true)(I:oE a (.tmp p)=true)(X:oE a x=true)(J:∀f,ja a hs f (.tmp p)=C f)(Y:∀f,ja a hs f x=H f)(hq:∀v w w',r.dx w w'->q v w->q v w')(a0:∀T,T≠t->∀v w w',r.st T w w'->q v w->q v w')(h:∀(m:r.Lt w0)(f:Nat->Value),(∀t p,hs.lookup t=some p->(bI o).contains t=true->p (f t) m.1)->∃F,(Instr.storeAt t (C f) (H f)).run P m.1=.ok () F/\r.st t m.1 F/\q (C f) F)(hr:wpX r P ops Q w0 R ((p,q)::ss) rest a hs):wpX r P ops Q w0 R ss (o::rest) a hs:=by
 have K:jb o=t:=by unfold jb;rw [ho]
 have N:iq o=p:=by unfold iq;rw [ho]
 refine .inr ⟨q,U,hq,by rw [K];exact a0,fun l w he G=>kT hg G fun G=>?_,by rw [N];exact hr⟩;have O:=rK (.inr trivial) W G;have a1:execOp l.eval o=execOp (bQ a hs (fun t=>l.eval (.tmp t))).eval o:=fY (by rw [ho];exact fun cs b=>by intro q;cases q) O;have a2:l.eval (.tmp p)=C (fun t=>l.eval (.tmp t)):=by rw [<- J,<- fK I];exact O p (by unfold bI;rw [ho];simp [Op.operands])
 obtain⟨F,h1,h2,h3⟩:=h ⟨w,he⟩ (fun t=>l.eval (.tmp t)) (fun t p hl hc=>by have:=G t (by simpa using hc);unfold dN at this;rw [hl]at this;exact this);unfold Oper.wp;rw [a1];unfold execOp;simp only [ho];rw [fK I,fK X,J,Y];simp only [Sem.run_bind,h1];exact⟨undef,rfl,by rw [K];exact h2,by rw [N,a2];exact h3⟩
end
end Go.Proofs.YtmmoenkmicimcaaGreatDoor.Gt
namespace Go.Proofs.YtmmoenkmicimcaaGreatDoor.Gd
open Go Go.RowKit Go.Proofs.YtmmoenkmicimcaaGreatDoor
set_option linter.unusedVariables false
abbrev exR:Gt.Rl:=⟨Ext,fun _ _ _=>False,fun _=>aa _ _,fun h k=>h.tr k,id,False.elim,Ext,id,id⟩
section
variable {P:Program}{ops:Array Oper}{Q:Exit->Act->World->Prop}{w0:World}{R:Act->World->Prop}
theorem aL {id:Nat}{a:Act}{w:World}{l:List Oper}(n:Nat)(C:P.follows .mixedOrders=true)(F:(Gt.iX l.toArray n&&jR l.toArray n)=true)(h:∀q,Ext w q->Gt.wpX exR P l.toArray Q q (fun G w'=>wpList P l.toArray Q (l.drop n) G w') [] (l.take n) a []):(Code.region id l.toArray true).wp P Q a w:=Gt.aL (r:=exR) n C F h
theorem dW:type_of%(@Gt.dW exR):=@Gt.dW exR
theorem jY:type_of%(@Gt.jY exR):=@Gt.jY exR
theorem iB:type_of%(@Gt.iB exR):=@Gt.iB exR
theorem cB:type_of%(@Gt.cB exR):=@Gt.cB exR
theorem cZ:type_of%(@Gt.cZ exR):=@Gt.cZ exR
theorem gH:type_of%(@Gt.gH exR):=@Gt.gH exR
theorem lJ:type_of%(@Gt.lJ exR):=@Gt.lJ exR
theorem oM:type_of%(@Gt.oM exR):=@Gt.oM exR
theorem oO:type_of%(@Gt.oO exR):=@Gt.oO exR
theorem mO:type_of%(@Gt.mO exR):=@Gt.mO exR
theorem dX:type_of%(@Gt.dX exR):=@Gt.dX exR
theorem bD:type_of%(@Gt.bD exR):=@Gt.bD exR
theorem bV:type_of%(@Gt.bV exR):=@Gt.bV exR
theorem gN:type_of%(@Gt.gN exR):=@Gt.gN exR
theorem aR:type_of%(@Gt.aR exR):=@Gt.aR exR
theorem fZ:type_of%(@Gt.fZ exR):=@Gt.fZ exR
theorem eM:type_of%(@Gt.eM exR):=@Gt.eM exR
theorem lD:type_of%(@Gt.lD exR):=@Gt.lD exR
theorem lK:type_of%(@Gt.lK exR):=@Gt.lK exR
theorem mP:type_of%(@Gt.mP exR):=@Gt.mP exR
theorem dK:type_of%(@Gt.RP exR):=@Gt.RP exR
theorem bY:type_of%(@Gt.rJ exR):=@Gt.rJ exR
theorem lL:type_of%(@Gt.gV exR):=@Gt.gV exR
theorem aB {o:Oper}{rest:List Oper}{a:Act}{hs:List (Nat×aM)}(l:Gt.NH ops o a hs=true)(h:∀K:Act->Prop,(∀a,Gt.wpX exR P ops Q w0 R [] rest a hs->K a)->o.quiet P a (fun w'=>∃m:Lt w0,w'=m.1) K):Gt.wpX exR P ops Q w0 R [] (o::rest) a hs:=Gt.aB l h
theorem lC {o:Oper}{rest:List Oper}{a:Act}{hs:List (Nat×aM)}{d:Nat}(hg:eC ops o a hs){t e:TypeId}{n:Nat}{ps:Array (Nat×Operand)}{l:List (Nat×Value)}(B:Nat){cs:Array Value}(F:B<=w0.heap.size)(G:∀W:World,(Instr.buildSlice t n l.toArray).run P W=.ok (.slice (some ⟨W.heap.size,0,none⟩) n n) (W.alloc (.cells cs e)))(q:o.dst=some d)(C:Nat.blt d a.tmps.size=true)(ho:o.op=.buildSlice t n ps)(H:(ps.toList.map fun p=>(p.1,a.eval p.2))=l)(I:gO o hs=true)(J:n=cs.size)(N:Nat.ble n 4294967295=true)(O:Gt.wpX exR P ops Q w0 R [] rest (a.put (some d) undef) ((d,fun v w=>Own w B e v cs.toList)::hs)):Gt.wpX exR P ops Q w0 R [] (o::rest) a hs:=jY hg _ (nP B e cs.toList) q C (by unfold bC;rw [ho]) I (fun m K U=>uL (s:=Instr.buildSlice t n l.toArray) (by unfold execOp;simp only [ho];rw [<- H,<- List.map_toArray,Array.toArray_toList]) (G m.1) (U _ _ (by rw [q];rfl) ⟨(aa _ _).alloc (bh _) _,by rw [q,bF (cQ C)];exact(Own.lit m.1 cs e n J (by have:=Nat.le_of_ble_eq_true N;unfold maxLen;omega)).mono (dm F m.2.size)⟩)) O
end
end Go.Proofs.YtmmoenkmicimcaaGreatDoor.Gd
namespace Go.Proofs.YtmmoenkmicimcaaGreatDoor.Gr
open Go Go.RowKit Go.Proofs.YtmmoenkmicimcaaGreatDoor
set_option linter.unusedVariables false
structure Rl where
 rel:World->World->Prop
 refl:∀ w,rel w w
 tr:∀ {a b c:World},rel a b->rel b c->rel a c
 ext:∀ {a b:World},Ext a b->rel a b
def Rl.up(r:Rl):Gt.Rl:=⟨r.rel,fun _ _ _=>False,r.refl,r.tr,r.ext,False.elim,r.rel,r.ext,id⟩
def Rl.stable(r:Rl)(g:aM):Prop:=∀v w w',r.rel w w'->g v w->g v w'
abbrev Rl.Lt(r:Rl)(w:World):=r.up.Lt w
section
variable {P:Program}{Q:Exit->Act->World->Prop}{r:Rl}{ops:Array Oper}{w0:World}{R:Act->World->Prop}
theorem aB {o:Oper}{rest:List Oper}{a:Act}{hs:List (Nat×aM)}(l:Gt.NH ops o a hs=true)(h:∀K:Act->Prop,(∀a,Gt.wpX r.up P ops Q w0 R [] rest a hs->K a)->o.quiet P a (fun w'=>∃m:r.Lt w0,w'=m.1) K):Gt.wpX r.up P ops Q w0 R [] (o::rest) a hs:=Gt.aB l h
theorem aL {id:Nat}{a:Act}{w:World}{l:List Oper}(n:Nat)(C:P.follows .mixedOrders=true)(F:(Gt.iX l.toArray n&&jR l.toArray n)=true)(h:∀q,r.rel w q->Gt.wpX r.up P l.toArray Q q (fun G w'=>wpList P l.toArray Q (l.drop n) G w') [] (l.take n) a []):(Code.region id l.toArray true).wp P Q a w:=Gt.aL (r:=r.up) n C F h
theorem xB {a:Act}{w:World}{l:List Oper}(n:Nat)(q:(Gt.iX l.toArray n&&jR l.toArray n)=true)(h:Gt.wpX r.up P l.toArray Q w (fun C w'=>wpList P l.toArray Q (l.drop n) C w') [] (l.take n) a []):wpAny P .any l.toArray Q l.toArray.size (Array.replicate l.toArray.size false) a w:=Gt.xB n q h
end
theorem cZ {r:Rl}:type_of%(@Gt.cZ r.up):=@Gt.cZ r.up
theorem bD {r:Rl}:type_of%(@Gt.bD r.up):=@Gt.bD r.up
theorem aR {r:Rl}:type_of%(@Gt.aR r.up):=@Gt.aR r.up
theorem eM {r:Rl}:type_of%(@Gt.eM r.up):=@Gt.eM r.up
theorem gV {r:Rl}:type_of%(@Gt.gV r.up):=@Gt.gV r.up
theorem bY {r:Rl}:type_of%(@Gt.rJ r.up):=@Gt.rJ r.up
end Go.Proofs.YtmmoenkmicimcaaGreatDoor.Gr
