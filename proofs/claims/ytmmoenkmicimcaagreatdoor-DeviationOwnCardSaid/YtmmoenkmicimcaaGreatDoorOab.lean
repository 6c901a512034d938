import Derived.StillTail
import Derived.BigQuiet
import Derived.Test.YtmmoenkmicimcaaGreatDoorOaa
namespace Go.Proofs.YtmmoenkmicimcaaGreatDoor
open Go Go.RowKit
set_option linter.unusedVariables false
abbrev aM:=Value->World->Prop
def cF(g:aM):Prop:=∀v w w',Ext w w'->g v w->g v w'
def bI(o:Oper):List Nat:=o.op.operands.toList.filterMap fun | .tmp t=>some t | _=>none
def dN(a:Act)(l:List (Nat×aM))(t:Nat)(v:Value)(w:World):Prop:=match l.lookup t with | some g=>g v w | none=>v=a.eval (.tmp t)
def wpX (P:Program) (Q:Exit->Act->World->Prop) (w0:World) (R:Act->World->Prop):List Oper->Act->List (Nat × aM)->Prop
 | [],a,q=>∀ l w,Ext w0 w->l.defers=a.defers->l.tmps.size=a.tmps.size->(∀ t,dN a q t (l.eval (.tmp t)) w)->R l w
 | o::C,a,q=>∃ d g,o.dst=some d/\d<a.tmps.size/\cF g /\
    (∀ l w,Ext w0 w->(∀ t ∈ bI o,dN a q t (l.eval (.tmp t)) w)->o.wp P l w (fun G F=>∃ v,G=l.put o.dst v/\Ext w F/\g v F) Q) /\
    ((∃ v,g=(fun u _=>u=v)/\wpX P Q w0 R C (a.put (some d) v) q) \/ wpX P Q w0 R C (a.put (some d) undef) ((d,g)::q))
section
variable {P:Program}{ops:Array Oper}{Q:Exit->Act->World->Prop}
def vQ(ops:Array Oper)(n:Nat)(a0:Act)(good:Nat->aM)(t:Nat)(v:Value)(w:World):Prop:=(∀j,j<n->∀l,ops[j]?=some l->l.dst=some t->good j v w)/\((∀j,j<n->∀l,ops[j]?=some l->l.dst≠some t)->v=a0.eval (.tmp t))
def Ob(P:Program)(ops:Array Oper)(Q:Exit->Act->World->Prop)(n:Nat)(a0:Act)(w0:World)(good:Nat->aM)(i:Nat)(o:Oper):Prop:= ∃d,o.dst=some d/\d<a0.tmps.size/\cF (good i)/\∀l w,Ext w0 w->(∀t∈bI o,vQ ops n a0 good t (l.eval (.tmp t)) w) ->o.wp P l w (fun C q=>∃v,C=l.put o.dst v/\Ext w q/\good i v q) Q
def iX(ops:Array Oper)(n:Nat):Bool:=decide (n<=ops.size)&&(List.range n).all fun i=>match ops[i]? with | none=>false | some o=>o.guard.isNone&&o.after.all (fun e=>!Region.binds .any e||decide (e.on<i))&&(List.range n).all (fun j=>match ops[j]? with | none=>false | some l=>(j==i||l.dst !=o.dst)&&((bI o).all fun t=>l.dst !=some t||o.after.any fun e=>Region.binds .any e&&e.on==j))
def jR(ops:Array Oper)(n:Nat):Bool:=(n==ops.size||(Region.sinkB .any ops n&&Region.chainB .any ops n))&&Region.seqB .any ops (ops.size - n) n (Array.replicate n true++Array.replicate (ops.size - n) false)
structure rI (ops:Array Oper) (n:Nat):Prop where
 le:n<=ops.size
 guard:∀ i o,i<n->ops[i]?=some o->o.guard=none
 back:∀ i o,i<n->ops[i]?=some o->∀ e ∈ o.after,Region.binds .any e=true->e.on<i
 one:∀ i o j oj,i<n->j<n->ops[i]?=some o->ops[j]?=some oj->j≠i->oj.dst≠o.dst
 wait:∀ i o j oj,i<n->j<n->ops[i]?=some o->ops[j]?=some oj->∀ t ∈ bI o,oj.dst=some t->∃ e ∈ o.after,Region.binds .any e=true/\e.on=j
theorem uK {n:Nat}(h:iX ops n=true):rI ops n:=by
 unfold iX at h;simp only [Bool.and_eq_true,decide_eq_true_eq]at h;obtain⟨K,N⟩:=h;have key:∀i o,i<n->ops[i]?=some o->(o.guard.isNone&&o.after.all (fun e=>!Region.binds .any e||decide (e.on<i))&&(List.range n).all (fun j=>match ops[j]? with | none=>false | some l=>(j==i||l.dst !=o.dst)&&((bI o).all fun t=>l.dst !=some t||o.after.any fun e=>Region.binds .any e&&e.on==j)))=true:=fun i o q ho=>by have:=List.all_eq_true.1 N i (List.mem_range.2 q);rw [ho]at this;exact this
 have J:∀i o j l,i<n->j<n->ops[i]?=some o->ops[j]?=some l->((j==i||l.dst !=o.dst)&&((bI o).all fun t=>l.dst !=some t||o.after.any fun e=>Region.binds .any e&&e.on==j))=true:=fun i o j l q C ho F=>by have:=key i o q ho;simp only [Bool.and_eq_true]at this;have:=List.all_eq_true.1 this.2 j (List.mem_range.2 C);rw [F]at this;exact this
 refine⟨K,fun i o q ho=>?_,fun i o q ho e I G=>?_,fun i o j l q C ho F O Q=>?_,fun i o j l q C ho F t U W=>?_⟩;· have:=key i o q ho;simp only [Bool.and_eq_true]at this;exact Option.isNone_iff_eq_none.1 this.1.1
 · have:=key i o q ho;simp only [Bool.and_eq_true]at this;have H:=Array.all_eq_true_iff_forall_mem.1 this.1.2 e I;simp only [G,Bool.not_true,Bool.false_or,decide_eq_true_eq]at H;exact H
 · have:=J i o j l q C ho F;simp only [Bool.and_eq_true,Bool.or_eq_true,beq_iff_eq,bne_iff_ne]at this;rcases this.1 with h | h;(· exact O h);· exact h Q
 · have:=J i o j l q C ho F;simp only [Bool.and_eq_true]at this;have H:=List.all_eq_true.1 this.2 t U;simp only [Bool.or_eq_true,bne_iff_ne,W,ne_eq,not_true,false_or]at H;obtain⟨e,I,G⟩:=Array.any_eq_true'.1 H;simp only [Bool.and_eq_true,beq_iff_eq]at G;exact⟨e,I,G.1,G.2⟩
structure a1I (ops:Array Oper) (n:Nat) (a0:Act) (w0:World) (good:Nat->aM) (listed:Array Bool) (a:Act) (w:World):Prop where
 ext:Ext w0 w
 defers:a.defers=a0.defers
 size:a.tmps.size=a0.tmps.size
 done:∀ j,j<n->listed.getD j false=true->∀ oj,ops[j]?=some oj->∀ d,oj.dst=some d->good j (a.eval (.tmp d)) w
 old:∀ t,(∀ j,j<n->listed.getD j false=true->∀ oj,ops[j]?=some oj->oj.dst≠some t)->a.eval (.tmp t)=a0.eval (.tmp t)
theorem bF {a:Act}{d:Nat}{v:Value}(h:d<a.tmps.size):(a.put (some d) v).eval (.tmp d)=v:=by simp [Act.eval,Act.put,h]
theorem eZ {a:Act}{d t:Nat}{v:Value}(h:d≠t):(a.put (some d) v).eval (.tmp t)=a.eval (.tmp t):=Act.eval_put fun e l=>by cases l;intro q;cases q;exact h rfl
theorem FL {n:Nat}{p q:Nat->Bool}{i:Nat}(hi:i<n)(C:p i=true)(F:q i=false)(l:∀j,j≠i->q j=p j):((List.range n).filter q).length+1=((List.range n).filter p).length:=by induction n with | zero=>omega | succ n G=>rw [List.range_succ,List.filter_append,List.filter_append,cz,cz];by_cases hin:i=n;(· subst hin;have e:(List.range i).filter q=(List.range i).filter p:=List.filter_congr fun j H=>l j (by have:=List.mem_range.1 H;omega);rw [e];simp [C,F]);· have J:=G (by omega);have I:q n=p n:=l n (fun e=>hin e.symm);simp only [List.filter_cons,List.filter_nil,I];omega
theorem xN {n:Nat}{a0:Act}{w0:World}{good:Nat->aM}(U:rI ops n)(ht:jR ops n=true)(a5:∀i o,i<n->ops[i]?=some o->Ob P ops Q n a0 w0 good i o)(b6:∀a w,Ext w0 w->a.defers=a0.defers->a.tmps.size=a0.tmps.size->(∀t,vQ ops n a0 good t (a.eval (.tmp t)) w)->wpList P ops Q (ops.toList.drop n) a w): ∀(f:Nat)(l:Array Bool)(a:Act)(w:World),((List.range n).filter fun i=>!l.getD i false).length=f->HeadInv .any ops n l->a1I ops n a0 w0 good l a w ->wpAny P .any ops Q (f+(ops.size - n)) l a w:=by
 unfold jR at ht;simp only [Bool.and_eq_true,Bool.or_eq_true,beq_iff_eq]at ht;obtain⟨b7,b8⟩:=ht;intro f
 induction f with | zero=>intro l a w hf W F;have a2:∀i,i<n->l.getD i false=true:=fun i J=>(by have h0:=ig hf;cases N:l.getD i false with | true=>rfl | false=>have:i∈(List.range n).filter fun i=>!l.getD i false:=List.mem_filter.2 ⟨List.mem_range.2 J,by simp only [N];rfl⟩;rw [h0]at this;cases this);have b9:=U.le;have bB:=W.size;have N:l=Array.replicate n true++Array.replicate (ops.size - n) false:=(by apply Array.ext;(· simp;omega);· intro i h1 h2;by_cases K:i<n;(· have:=a2 i K;rw [Array.getElem_append_left (by simpa using K)];simpa [h1]using this);· have:=W.tail i (by omega) (by omega);rw [Array.getElem_append_right (by simp;omega)];simpa [h1]using this);rw [et];have I:=b6 a w F.ext F.defers F.size (fun t=>⟨fun j C G H I=>F.done j C (a2 j C) G H t I,fun X=>F.old t (fun j C _ G H=>X j C G H)⟩);have:=wpAny_of_seq (md:=.any) (ops:=ops) (Q':=Q) (ops.toList.drop n) n l a w (fun j=>by simp [List.getElem?_drop]) (by rw [N,show(ops.toList.drop n).length=ops.size - n by simp];exact b8) I;rwa [show(ops.toList.drop n).length=ops.size - n by simp]at this | succ f ih=>intro l a w hf W F;have b9:=U.le;have bB:=W.size;have bS:∃i,i<n/\l.getD i false=false:=(by cases a6:(List.range n).filter fun i=>!l.getD i false with | nil=>rw [a6]at hf;simp at hf | cons i r=>have:i∈(List.range n).filter fun i=>!l.getD i false:=(by rw [a6];exact fm);obtain⟨h1,h2⟩:=List.mem_filter.1 this;exact⟨i,List.mem_range.1 h1,by simpa using h2⟩);have cD:∀m,(∃i,i<=m/\i<n/\l.getD i false=false)->∃i,i<n/\l.getD i false=false/\∀j,j<i->l.getD j false=true:=(by intro m;induction m with | zero=>rintro⟨i,h0,J,N⟩;exact⟨i,J,N,fun j C=>by omega⟩ | succ m cI=>rintro⟨i,h0,J,N⟩;by_cases Y:∃j,j<=m/\j<n/\l.getD j false=false;(· exact cI Y);· refine⟨i,J,N,fun j C=>?_⟩;cases a1:l.getD j false with | true=>rfl | false=>exact absurd ⟨j,by omega,by omega,a1⟩ Y);obtain⟨i0,a7,a8,cJ⟩:∃i,i<n/\l.getD i false=false/\∀j,j<i->l.getD j false=true:=(by obtain⟨i,J,N⟩:=bS;exact cD i ⟨i,bh _,J,N⟩);obtain⟨o0,b0⟩:∃o,ops[i0]?=some o:=⟨ops[i0]'(by omega),Array.getElem?_eq_getElem (by omega)⟩;have b3:i0∈Region.ready .any ops l:=mem_ready.2 ⟨getD_in (by omega) a8,o0,b0,fun e O Y=>cJ _ (U.back i0 o0 a7 b0 e O Y)⟩;rw [show f+1+(ops.size - n)=(f+(ops.size - n))+1 by omega];refine⟨fun h=>(by rw [h]at b3;cases b3),fun i J=>?_⟩;have a3:=mem_ready.1 J;have K:i<n:=(by rcases Nat.lt_or_ge i n with h | h;(· exact h);· rcases b7 with O | ⟨hs,hc⟩;(· obtain⟨o,ho,_⟩:=a3.2;have:=(Array.getElem?_eq_some_iff.1 ho).1;omega);· have hn:n<ops.size:=(by obtain⟨o,ho,_⟩:=a3.2;have:=(Array.getElem?_eq_some_iff.1 ho).1;omega);exact absurd J (tail_waits hs hc hn W _ i0 rfl a7 (getD_in (by omega) a8) i h));obtain⟨cL,o,ho,a2⟩:=a3;have cR:l.getD i false=false:=getD_both cL;obtain⟨d,I,cS,d3,cU⟩:=a5 i o K ho;have cV:∀t∈bI o,vQ ops n a0 good t (a.eval (.tmp t)) w:=fun t ht=>(by refine⟨fun j C G H b4=>?_,fun X=>F.old t (fun j C _ G H=>X j C G H)⟩;obtain⟨e,O,Y,cX⟩:=U.wait i o j G K C ho H t ht b4;exact F.done j C (by rw [<- cX];exact a2 e O Y) G H t b4);unfold wpOp;simp only [ho];rw [ax (by simp [Region.wanted,U.guard i o K ho])];refine .inl (Oper.wp_mono ?_ (cU a w F.ext cV));rintro d4 d0⟨v,rfl,b5,d1⟩;refine ih (l.setIfInBounds i true) _ d0 ?_ (W.set J K) ?_;(· have:=FL (p:=fun j=>!l.getD j false) (q:=fun j=>!(l.setIfInBounds i true).getD j false) K (by simp only [cR];rfl) (by have:(l.setIfInBounds i true).getD i false=true:=(by simp [show i<l.size by omega]);simp only [this];rfl) (fun j C=>by simp only [getD_set_ne false (Ne.symm C)]);omega);· refine⟨F.ext.tr b5,by rw [I];exact F.defers,by rw [I];simp [Act.put,F.size],fun j C a1 G H e O=>?_,fun t X=>?_⟩;(· by_cases hji:j=i;(· subst hji;have:G=o:=bc (H.symm.trans ho);subst this;have:e=d:=bc (O.symm.trans I);subst this;rw [I,bF (by rw [F.size];exact cS)];exact d1);· rw [getD_set_ne false (Ne.symm hji)]at a1;have a4:d≠e:=fun h=>U.one i o j G K C ho H hji (by rw [O,I,h]);rw [I,eZ a4];obtain⟨_,_,_,d2,_⟩:=a5 j G C H;exact d2 _ _ _ b5 (F.done j C a1 G H e O));· have a4:d≠t:=fun h=>X i K (by simp [show i<l.size by omega]) o ho (by rw [I,h]);rw [I,eZ a4];exact F.old t fun j C a1 G H=>X j C (getD_set_true a1) G H
structure JX (ops:Array Oper) (n:Nat) (a0:Act) (k:Nat) (a:Act) (hs:List (Nat × aM)) (gs:List aM):Prop where
 len:gs.length=k
 defers:a.defers=a0.defers
 size:a.tmps.size=a0.tmps.size
 keys:∀ t g,hs.lookup t=some g->∃ j oj,j<k/\ops[j]?=some oj/\oj.dst=some t
 slot:∀ t v w,(∀ j,j<k->∀ oj,ops[j]?=some oj->oj.dst=some t->(gs.getD j (fun _ _=>True)) v w)->((∀ j,j<k->∀ oj,ops[j]?=some oj->oj.dst≠some t)->v=a0.eval (.tmp t))->dN a hs t v w
theorem sC {n:Nat}{a0:Act}{w0:World}{R:Act->World->Prop} (hk:rI ops n) :
 ∀ (rest:List Oper) (k:Nat) (a:Act) (F:List (Nat × aM)) (gs:List aM),k+rest.length=n->(∀ j,j<rest.length->rest[j]?=ops[k+j]?)->JX ops n a0 k a F gs->wpX P Q w0 R rest a F ->
  ∃ U:List aM,(∀ j,j<k->U.getD j (fun _ _=>True)=gs.getD j (fun _ _=>True))/\(∀ i o,k<=i->i<n->ops[i]?=some o->Ob P ops Q n a0 w0 (fun j=>U.getD j (fun _ _=>True)) i o) /\
   (∀ H w,Ext w0 w->H.defers=a0.defers->H.tmps.size=a0.tmps.size->(∀ t,vQ ops n a0 (fun j=>U.getD j (fun _ _=>True)) t (H.eval (.tmp t)) w)->R H w)
 | [],k,a,F,gs,a5,_,J,h=>by
   have a2:k=n:=by simpa using a5
   subst a2
   exact ⟨gs,fun _ _=>rfl,fun i o W h2 _=>by omega,fun H w K N hz a3=>h H w K (N.trans J.defers.symm) (hz.trans J.size.symm) fun t=>J.slot t _ _ (a3 t).1 (a3 t).2⟩
 | o::rest,k,a,F,gs,a5,hl,J,h=>by
   simp only [dq] at a5
   have a2:k<n:=by omega
   have O:ops[k]?=some o:=by simpa using (hl 0 (by simp)).symm
   obtain ⟨d,g,N,a7,b4,b5,b6⟩:=h
   have b7:∀ j,j<rest.length->rest[j]?=ops[k+1+j]?:=fun j q=>by
    have:=hl (j+1) (by simp;omega)
    simpa [ch,Nat.add_comm 1 j] using this
   have a4:∀ j,j<k->(gs++[g]).getD j (fun _ _=>True)=gs.getD j (fun _ _=>True):=fun j q=>by
    simp [List.getD_eq_getElem?_getD,List.getElem?_append_left (show j<gs.length by rw [J.len];exact q)]
   have a6:(gs++[g]).getD k (fun _ _=>True)=g:=by
    simp [List.getD_eq_getElem?_getD,<- J.len]
   have b8:∀ G,F.lookup d=some G->False:=fun G b9=>by
    obtain ⟨j,l,q,C,I⟩:=J.keys d G b9
    exact hk.one k o j l a2 (by omega) O C (by omega) (by rw [I,N])
   have bB:F.lookup d=none:=by
    cases X:F.lookup d with
    | none=>rfl
    | some G=>exact (b8 G X).elim
   have hJ:∃ a1 Y,JX ops n a0 (k+1) a1 Y (gs++[g])/\wpX P Q w0 R rest a1 Y:=by
    rcases b6 with ⟨v,hg,hx⟩ | hx
    · refine ⟨a.put (some d) v,F,⟨by simp [J.len],J.defers,by simp [Act.put,J.size],fun t G ht=>?_,fun t u w W h2=>?_⟩,hx⟩
      · obtain ⟨j,l,q,r⟩:=J.keys t G ht
        exact ⟨j,l,by omega,r⟩
      · by_cases htd:d=t
        · subst htd
          have:=W k (by omega) o O N
          rw [a6,hg] at this
          unfold dN
          rw [bB]
          simp only [bF a7]
          exact this
        · have:=J.slot t u w (fun j q l C I=>by have:=W j (by omega) l C I;rwa [a4 j q] at this) (fun hn=>h2 fun j q l C=>by
           by_cases hjk:j=k
           · subst hjk
             have:l=o:=bc (C.symm.trans O)
             subst this
             rw [N];intro K;exact htd (bc K)
           · exact hn j (by omega) l C)
          unfold dN at *
          cases X:F.lookup t with
          | some G=>simp only [X] at this ⊢;exact this
          | none=>simp only [X] at this ⊢;rw [eZ htd];exact this
    · refine ⟨a.put (some d) undef,(d,g)::F,⟨by simp [J.len],J.defers,by simp [Act.put,J.size],fun t G ht=>?_,fun t u w W h2=>?_⟩,hx⟩
      · by_cases htd:t=d
        · subst htd;exact ⟨k,o,by omega,O,N⟩
        · have e:(t == d)=false:=by simpa using htd
          simp only [List.lookup_cons,e] at ht
          obtain ⟨j,l,q,r⟩:=J.keys t G ht
          exact ⟨j,l,by omega,r⟩
      · by_cases htd:d=t
        · subst htd
          have:=W k (by omega) o O N
          rw [a6] at this
          unfold dN
          simp only [List.lookup_cons,beq_self_eq_true]
          exact this
        · have:=J.slot t u w (fun j q l C I=>by have:=W j (by omega) l C I;rwa [a4 j q] at this) (fun hn=>h2 fun j q l C=>by
           by_cases hjk:j=k
           · subst hjk
             have:l=o:=bc (C.symm.trans O)
             subst this
             rw [N];intro K;exact htd (bc K)
           · exact hn j (by omega) l C)
          have e:(t == d)=false:=by simpa using fun h=>htd h.symm
          unfold dN at *
          simp only [List.lookup_cons,e]
          cases X:F.lookup t with
          | some G=>simp only [X] at this ⊢;exact this
          | none=>simp only [X] at this ⊢;rw [eZ htd];exact this
   obtain ⟨a1,Y,J1,bS⟩:=hJ
   obtain ⟨U,e1,e2,e3⟩:=sC hk rest (k+1) a1 Y (gs++[g]) (by omega) b7 J1 bS
   refine ⟨U,fun j q=>by rw [e1 j (by omega),a4 j q],fun i oi W h2 a8=>?_,e3⟩
   by_cases hik:i=k
   · subst hik
     have:oi=o:=bc (a8.symm.trans O)
     subst this
     have b0:U.getD i (fun _ _=>True)=g:=by rw [e1 i (by omega),a6]
     refine ⟨d,N,by rw [<- J.size];exact a7,by show cF (U.getD i (fun _ _=>True));rw [b0];exact b4,fun H w K a3=>?_⟩
     show oi.wp P H w (fun cD b3=>∃ v,cD=H.put oi.dst v/\Ext w b3/\U.getD i (fun _ _=>True) v b3) Q
     rw [b0]
     refine b5 H w K fun t ht=>?_
     have Y:=a3 t ht
     refine J.slot t _ _ (fun j q l C I=>?_) (fun hn=>Y.2 fun j q l C I=>?_)
     · have:=Y.1 j (by omega) l C I
       simp only [e1 j (by omega),a4 j q] at this
       exact this
     · obtain ⟨e,K,hb,cI⟩:=hk.wait i oi j l a2 q O C t ht I
       have:=hk.back i oi a2 O e K hb
       exact hn j (by omega) l C I
   · exact e2 i oi (by omega) h2 a8
theorem aL {id:Nat}{a:Act}{w:World}{l:List Oper}(n:Nat)(J:P.follows .mixedOrders=true)(C:(iX l.toArray n&&jR l.toArray n)=true)(h:∀H,Ext w H->wpX P Q H (fun K w'=>wpList P l.toArray Q (l.drop n) K w') (l.take n) a []):(Code.region id l.toArray true).wp P Q a w:=by
 simp only [Bool.and_eq_true]at C;have F:=uK C.1;have a1:n<=l.length:=by simpa using F.le
 have I:(l.take n).length=n:=by simp;omega
 obtain⟨gs,_,N,O⟩:=sC (a0:=a) F (l.take n) 0 a [] [] (by rw [I];omega) (fun j G=>by rw [I]at G;simp [G]) ⟨rfl,rfl,rfl,fun t g h=>(by cases h),fun t v w' _ U=>U (fun j G=>by omega)⟩ (h w.drew (aa _ _).drew);refine wp_region_any J ?_;have:=xN (P:=P) (Q:=Q) (n:=n) (a0:=a) (w0:=w.drew) (good:=fun j=>gs.getD j (fun _ _=>True)) F C.2 (fun i o W ho=>N i o (de _) W ho) O (((List.range n).filter fun i=>!(Array.replicate l.toArray.size false).getD i false).length) (Array.replicate l.toArray.size false) a w.drew rfl ⟨by simp,fun j oj _ q=>(by rw [getD_replicate_false]at q;cases q),fun t _ X=>getD_in (by simpa using X) (getD_replicate_false _ _)⟩ ⟨aa _ _,rfl,rfl,fun j _ q=>(by rw [getD_replicate_false]at q;cases q),fun t _=>rfl⟩;have Y:((List.range n).filter fun i=>!(Array.replicate l.toArray.size false).getD i false).length=n:=by have:((List.range n).filter fun i=>!(Array.replicate l.toArray.size false).getD i false)=List.range n:=List.filter_eq_self.2 fun i _=>(by rw [getD_replicate_false];rfl);rw [this,List.length_range]
 rw [Y]at this;rw [show n+(l.toArray.size - n)=l.toArray.size by simp;omega]at this;exact this
end
theorem cQ {a b:Nat}(h:Nat.blt a b=true):a<b:=by rwa [Nat.blt_eq]at h
def Lt(w:World):={w':World//Ext w w'}
instance(w:World):Nonempty (Lt w):=⟨⟨w,aa _ _⟩⟩
def sD(o:Oper):Bool:=match o.op with | .move _ | .assign _ | .load .. | .binOp .. | .unOp .. | .convert .. | .slice .. | .fieldAddr .. | .field .. | .indexAddr .. | .index .. | .extract .. | .sliceToArrayPointer ..=>true | .call {callee:=.builtin .len,.. }=>true | _=>false
theorem WT {P:Program}{w w':World}{f:FuncId}{args:Array Value} (s:Sem Value):(do pure (Next.value (<- s)):Sem Next).run P w≠.ok (.enter f args) w':=by
 intro h
 rw [Sem.run_bind] at h
 cases hs:s.run P w with
 | ok x w1=>rw [hs] at h;simp at h
 | halt x w1=>rw [hs] at h;simp at h
theorem oL {P:Program}{ρ:Operand->Value}{o:Oper}(l:sD o=true){w w':World}{f:FuncId}{args:Array Value}:(execOp ρ o).run P w≠.ok (.enter f args) w':=by
 obtain⟨K,C,F,pos,N,guard⟩:=o;unfold sD at l;cases C<;>simp only []at l<;>first | (cases l;done) | (unfold execOp;exact WT _) | (unfold execOp;simp;done) | skip
 rename_i c;obtain⟨G,H,I⟩:=c;cases G with | value x=>cases l | invoke x n=>cases l | builtin b=>(cases b<;>first | (cases l;done) | skip);unfold execOp;simp only [resolve,Sem.run_bind,Sem.run_pure,Result.andThen_ok,invoke,builtin];intro h;cases q:(Builtin.len_ I F (Array.map ρ H)).run P w with | ok x J=>rw [q]at h;simp at h | halt x J=>rw [q]at h;simp at h
section
variable {P:Program}{Q:Exit->Act->World->Prop}{w0:World}{R:Act->World->Prop}
theorem fY {o:Oper}{a b:Act}(l:∀q b,o.op≠.select q b)(h:∀t∈bI o,a.eval (.tmp t)=b.eval (.tmp t)):execOp a.eval o=execOp b.eval o:=execOp_congr o l fun x C=>by cases x with | tmp t=>exact h t (List.mem_filterMap.2 ⟨.tmp t,by simpa using C,rfl⟩) | const v=>rfl | global g=>rfl | func f=>rfl
def bC(o:Oper):Bool:=match o.op with | .select ..=>false | _=>true
theorem dJ {o:Oper}(h:bC o=true):∀l b,o.op≠.select l b:=by intro l b q;unfold bC at h;rw [q]at h;cases h
theorem gG {o:Oper}{a b:Act}{w:World}{d:Nat}{G:aM}(C:execOp a.eval o=execOp b.eval o)(H:o.dst=some d)(I:d<b.tmps.size)(h:∀K:Act->World->Prop,(∀F q,F.defers=b.defers->G (F.eval (.tmp d)) q->K F q)->o.wp P b w K (fun _ _ _=>False)):o.wp P a w (fun F q=>∃v,F=a.put o.dst v/\G v q) Q:=by have l:=h (fun F q=>F.defers=b.defers/\G (F.eval (.tmp d)) q) (fun _ _ h O=>⟨h,O⟩);unfold Oper.wp at l⊢;rw [C];cases J:(execOp b.eval o).run P w with | ok n w' =>rw [J]at l;cases n<;>simp only [Oper.upon]at l⊢;(case value u=>exact⟨u,rfl,by rw [H,bF I]at l;exact l.2⟩);(case skip=>exact⟨undef,rfl,by rw [H,bF I]at l;exact l.2⟩);(case defer x=>have:=congrArg List.length l.1;rw [H]at this;simp [Act.put]at this);(case enter f U=>refine Calls.mono l fun e q C=>?_;cases e with | returned u=>have N:(b.put o.dst u).defers=b.defers/\G ((b.put o.dst u).eval (.tmp d)) q:=C;rw [H,bF I]at N;exact⟨u,rfl,N.2⟩ | panicked c=>exact C.elim | outgrown=>obtain⟨_,_,W⟩:=C;exact W.elim);case row f U=>refine Rows.mono l fun u q C=>?_;rw [H,bF I]at C;exact⟨u,rfl,C.2⟩ | halt x w' =>rw [J]at l;cases x<;>simp only [Oper.upon]at l
def gO(o:Oper)(l:List (Nat×aM)):Bool:=(bI o).all fun t=>(l.lookup t).isNone
theorem jJ {o:Oper}{a q:Act}{C:List (Nat×aM)}{w:World}(G:gO o C=true)(h:∀t∈bI o,dN a C t (q.eval (.tmp t)) w):∀t∈bI o,q.eval (.tmp t)=a.eval (.tmp t):=fun t F=>by have H:=List.all_eq_true.1 G t F;have l:=h t F;unfold dN at l;rw [Option.isNone_iff_eq_none.1 H]at l;exact l
theorem stable_eq(v:Value):cF (fun u _=>u=v):=fun _ _ _ _ h=>h
theorem nP(B:Nat)(e:TypeId)(xs:List Value):cF (fun v w=>Own w B e v xs):=fun _ _ _ l h=>h.ext l
theorem jX {o:Oper}{rest:List Oper}{a:Act}{q:List (Nat×aM)}{d:Nat}(H:o.dst=some d)(J:Nat.blt d a.tmps.size=true)(N:sD o=true)(O:bC o=true)(U:gO o q=true)(h:∀K:Act->Prop,(∀a,wpX P Q w0 R rest a q->K a)->o.quiet P a (fun w'=>∃m:Lt w0,w'=m.1) K):wpX P Q w0 R (o::rest) a q:=by obtain⟨v,W,I⟩:=h _ (fun _ h=>h);rw [H]at I;refine⟨d,fun u _=>u=v,H,cQ J,stable_eq v,fun X w Y a0=>?_,.inl ⟨v,rfl,I⟩⟩;have l:=W w ⟨⟨w,Y⟩,rfl⟩;have h4:execOp X.eval o=execOp a.eval o:=fY (dJ O) (jJ U a0);unfold Oper.quietAt at l;unfold Oper.wp;rw [h4];have a1:=fun w' f C=>oL (P:=P) (ρ:=a.eval) (o:=o) N (w:=w) (w':=w') (f:=f) (args:=C);generalize(execOp a.eval o).run P w=r at*;cases r with | ok n w' =>cases n<;>simp only [Oper.quietUpon]at l<;>simp only [Oper.upon];(case value u=>obtain⟨F,G⟩:=l;exact⟨u,rfl,by rw [F];exact aa _ _,G⟩);(case skip=>obtain⟨F,G⟩:=l;exact⟨undef,rfl,by rw [F];exact aa _ _,G.symm⟩);case enter f C=>exact absurd rfl (a1 w' f C) | halt x w'=>simp only [Oper.quietUpon]at l
theorem iB {o:Oper}{rest:List Oper}{a:Act}{C:List (Nat×aM)}{d:Nat}(v:Value)(F:o.dst=some d)(H:Nat.blt d a.tmps.size=true)(I:bC o=true)(J:gO o C=true)(h:∀(m:Lt w0)(K:Act->World->Prop),(∀q l,q.defers=a.defers->(Ext m.1 l/\q.eval (.tmp d)=v)->K q l)->o.wp P a m.1 K (fun _ _ _=>False))(N:wpX P Q w0 R rest (a.put (some d) v) C):wpX P Q w0 R (o::rest) a C:=⟨d,fun u _=>u=v,F,cQ H,stable_eq v,fun Y w O U=>Oper.wp_mono (fun q l⟨v,W,X⟩=>⟨v,W,X⟩) (gG (G:=fun u l=>Ext w l/\u=v) (fY (dJ I) (jJ J U)) F (cQ H) (h ⟨w,O⟩)),.inl ⟨v,rfl,N⟩⟩
def sF(o:Oper)(l:List (Nat×aM))(t1:Nat):Bool:=(bI o).all fun t=>t==t1||(l.lookup t).isNone
theorem CD {o:Oper}{a l:Act}{q:List (Nat×aM)}{w:World}{t1:Nat}{p:aM}(H:sF o q t1=true)(I:t1∈bI o)(J:t1<a.tmps.size)(K:q.lookup t1=some p)(h:∀t∈bI o,dN a q t (l.eval (.tmp t)) w):p (l.eval (.tmp t1)) w/\∀t∈bI o,l.eval (.tmp t)=(a.put (some t1) (l.eval (.tmp t1))).eval (.tmp t):=by
 refine⟨?_,fun t F=>?_⟩;· have:=h t1 I;unfold dN at this;rw [K]at this;exact this
 · have G:=List.all_eq_true.1 H t F;simp only [Bool.or_eq_true,beq_iff_eq]at G;by_cases htt:t=t1;(· subst htt;rw [bF J]);· rw [eZ (Ne.symm htt)];have C:=h t F;unfold dN at C;rw [Option.isNone_iff_eq_none.1 (G.resolve_left htt)]at C;exact C
def iH(P:Program)(f:FuncId):Bool:=match P.funcs[f]? with | some l=>!(l.name== "runtime.NumGoroutine")&&l.body.isSome | none=>false
theorem P6 {P:Program}{f:FuncId}(h:iH P f=true)(args:Array Value)(w:World):(callFunc f args).run P w=.ok (.enter f args) w:=by unfold iH at h;cases l:P.funcs[f]? with | none=>rw [l]at h;cases h | some q=>rw [l]at h;simp only [Bool.and_eq_true,Bool.not_eq_true']at h;have C:¬q.name= "runtime.NumGoroutine":=(by have:=h.1;simpa using this);have F:¬q.body=none:=(by have:=h.2;intro e;rw [e]at this;cases this);simp [callFunc,l,C,F]
theorem iP {o:Oper}{b:Act}{w:World}{K:Act->World->Prop}{G:Value->World->Prop}{f:FuncId}{x:Operand}{xs:Array Operand}{q:Array TypeId}{args:List Value}(ho:o.op=.call {callee:=.value x,args:=xs,argTypes:=q})(C:b.eval x=.func (.func f) #[] #[])(F:iH P f=true)(H:xs.toList.map b.eval=args)(h:Calls P f args.toArray w fun e l=>∃v,e=.returned v/\G v l)(I:∀v l,G v l->K (b.put o.dst v) l):o.wp P b w K (fun _ _ _=>False):=by
 have J:xs.map b.eval=args.toArray:=by rw [<- H,<- List.map_toArray,Array.toArray_toList]
 have N:(execOp b.eval o).run P w=.ok (.enter f args.toArray) w:=by unfold execOp;simp only [ho,resolve,Sem.run_bind,C,J,Deferred.ofValue,Sem.run_pure,Result.andThen_ok,invoke];simp only [Array.append_empty,Array.empty_append];exact P6 F args.toArray w
 unfold Oper.wp;rw [N];refine Calls.mono h fun e l⟨v,O,hg⟩=>?_;subst O;exact I v l hg
theorem uL {o:Oper}{b:Act}{w w'':World}{K:Act->World->Prop}{v:Value}{s:Sem Value} (he:execOp b.eval o=(do pure (Next.value (<- s)))) (hs:s.run P w=.ok v w'') (hK:K (b.put o.dst v) w''):o.wp P b w K (fun _ _ _=>False):=by
 unfold Oper.wp
 have:(execOp b.eval o).run P w=.ok (.value v) w'':=by rw [he,Sem.run_bind,hs];simp
 rw [this]
 exact hK
theorem cB {o:Oper}{rest:List Oper}{a:Act}{q:List (Nat×aM)}{d:Nat}(v:Value){f:FuncId}{x:Operand}{xs:Array Operand}{J:Array TypeId}{args:List Value}(C:o.dst=some d)(I:Nat.blt d a.tmps.size=true)(ho:o.op=.call {callee:=.value x,args:=xs,argTypes:=J})(N:a.eval x=.func (.func f) #[] #[])(O:iH P f=true)(U:xs.toList.map a.eval=args)(W:gO o q=true)(h:∀m:Lt w0,Calls P f args.toArray m.1 fun e l=>e=.returned v/\Ext m.1 l)(X:wpX P Q w0 R rest (a.put (some d) v) q):wpX P Q w0 R (o::rest) a q:=iB v C I (by unfold bC;rw [ho]) W (fun m K Y=>iP (G:=fun u l=>u=v/\Ext m.1 l) ho N O U ((h m).mono fun e l⟨F,H⟩=>⟨v,F,rfl,H⟩) (fun u l⟨F,H⟩=>Y _ _ (by rw [C];rfl) ⟨H,by rw [C,bF (cQ I)];exact F⟩)) X
theorem dK {a:Act}(h:∀m:Lt w0,R a m.1):wpX P Q w0 R [] a []:=fun l w F q C G=>by have:l=a:=(by obtain⟨t,d⟩:=a;obtain⟨J,K⟩:=l;simp only at q C;subst q;congr 1;apply Array.ext C;intro i H I;have:=G i;simpa [dN,Act.eval,H,I]using this);rw [this];exact h ⟨w,F⟩
end
section
variable {P:Program}{Q:Exit->Act->World->Prop}{w0:World}{R:Act->World->Prop}
def bQ (a:Act):List (Nat × aM)->(Nat->Value)->Act
 | [],_=>a
 | (t,_)::r,f=>(bQ a r f).put (some t) (f t)
theorem fA (a:Act) (f:Nat->Value):∀ l:List (Nat × aM),(bQ a l f).tmps.size=a.tmps.size
 | []=>rfl
 | (t,_)::r=>by simp [bQ,Act.put,fA a f r]
theorem eU (a:Act) (f:Nat->Value):∀ l:List (Nat × aM),(bQ a l f).defers=a.defers
 | []=>rfl
 | (t,_)::r=>by simp [bQ,Act.put,eU a f r]
theorem oN (a:Act) (f:Nat->Value):∀ (q:List (Nat × aM)) (i:Nat) (C:i<(bQ a q f).tmps.size) (l:i<a.tmps.size),(bQ a q f).tmps[i]=if (q.lookup i).isSome then f i else a.tmps[i]
 | [],i,C,l=>by simp [bQ]
 | (t,p)::r,i,C,l=>by
   have F:i<(bQ a r f).tmps.size:=by rw [fA];exact l
   by_cases hi:i=t
   · subst hi
     simp [bQ,Act.put]
   · have e:(i == t)=false:=by simpa using hi
     have:=oN a f r i F l
     simp only [bQ,Act.put,List.lookup_cons,e]
     rw [Array.getElem_setIfInBounds F,ao (Ne.symm hi),this]
end
end Go.Proofs.YtmmoenkmicimcaaGreatDoor
