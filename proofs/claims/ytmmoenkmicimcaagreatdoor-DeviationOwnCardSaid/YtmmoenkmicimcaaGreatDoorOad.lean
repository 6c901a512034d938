import Derived.StillTail
import Derived.BigQuiet
namespace Go.Proofs.YtmmoenkmicimcaaGreatDoor
open Go
theorem rL {P:Program}{f:FuncId}{args:Array Value}{w:World}{a n:Nat}{v:Value}(h:Calls P f args (w.drewN (a+n)) fun e w'=>e=.returned v/\w'=w.drewN (a+n)):Calls P f args (w.drewN (a+n)) fun e l=>e=.returned v/\∃m,l=w.drewN (a+m):=h.mono fun _ _⟨q,C⟩=>⟨q,n,C⟩
section
variable {P:Program}{ops:Array Oper}{md:Region.Mode}{C:World->Prop}
def RR (P:Program) (md:Region.Mode) (ops:Array Oper) (C:World->Prop) (n:Nat) (L:Array Bool->Act->Prop):Nat->Array Bool->Act->Prop
 | 0,l,a=>L l a
 | f+1,l,a=>Region.ready md ops l≠[]/\∀ i ∈ Region.ready md ops l,i<n/\qOp P ops C i (RR P md ops C n L f (l.setIfInBounds i true)) a
theorem qS {n g:Nat}{L:Array Bool->Act->Prop}{Q':Exit->Act->World->Prop} (F:∀ l a w,C w->L l a->wpAny P md ops Q' g l a w) :
 ∀ (f:Nat) (l:Array Bool) (a:Act) (w:World),C w->RR P md ops C n L f l a->wpAny P md ops Q' (f+g) l a w
 | 0,l,a,w,q,h=>by rw [Nat.zero_add];exact F _ _ _ q h
 | f+1,l,a,w,q,h=>by
   rw [show f+1+g=(f+g)+1 by omega]
   exact ⟨fun G=>absurd G h.1,fun i H=>wpOp_of_qOp q (fun I w' J K=>qS F f _ I w' J K) (h.2 i H).2⟩
theorem KL {n i:Nat}{J:Oper}{v:Value}{L:Array Bool->Act->Prop}(hi:ops[i]?=some J)(Y:∀(j:Nat)(o:Oper)K b,ops[j]?=some o->o.op≠.select K b)(hs:Region.sinkB md ops n=true)(hc:Region.chainB md ops n=true)(hn:n<ops.size)(a0:i<n)(a3:∀l a,L l a->∀j∈Region.ready md ops l,n<=j): ∀(f:Nat)(l:Array Bool)(a:Act),HeadInv md ops n l ->(∀j F,ops[j]?=some F->j≠i->l.getD j true=false->(∀e∈F.after,Region.binds md e=true->e.on≠i)->J.apart ops F=true) ->i∈Region.ready md ops l->YieldsIn P ops C J v a ->RR P md ops C n L f (l.setIfInBounds i true) (a.put J.dst v)->RR P md ops C n L (f+1) l a:=by intro f;induction f with | zero=>intro l a O _ q Q H;have G:=(mem_ready.1 q).1;refine⟨fun h=>(by rw [h]at q;cases q),fun j I=>?_⟩;have U:j<n:=(by rcases Nat.lt_or_ge j n with h | h;(· exact h);· exact absurd I (tail_waits hs hc hn O _ i rfl a0 G j h));refine⟨U,?_⟩;by_cases hji:j=i;(· subst hji;exact Q.qOp hi H);· have:=a3 _ _ H j (ready_mono I hji);omega | succ f ih=>intro l a O a1 q Q H;have G:=(mem_ready.1 q).1;refine⟨fun h=>(by rw [h]at q;cases q),fun j I=>?_⟩;have U:j<n:=(by rcases Nat.lt_or_ge j n with h | h;(· exact h);· exact absurd I (tail_waits hs hc hn O _ i rfl a0 G j h));refine⟨U,?_⟩;by_cases hji:j=i;(· subst hji;exact Q.qOp hi H);· have W:=(H.2 j (ready_mono I hji)).2;obtain⟨a2,F,X,a4⟩:=mem_ready.1 I;have a5:∀e∈F.after,Region.binds md e=true->e.on≠i:=fun e he hb a6=>(by have W:=a4 e he hb;rw [a6,getD_both G]at W;cases W);have h2:=qOp_put X (a1 j F X hji a2 a5) (fun K b=>Y i J K b hi) (fun K b=>Y j F K b X) Q W;have a7:∀k N,ops[k]?=some N->k≠i->(l.setIfInBounds j true).getD k true=false ->(∀e∈N.after,Region.binds md e=true->e.on≠i)->J.apart ops N=true:=fun k N hk a8 G b0=>(by refine a1 k N hk a8 ?_ b0;by_cases hjk:j=k;(· subst hjk;exact a2);· rw [getD_set_ne true hjk]at G;exact G);refine qOp_mono (fun a' h3=>ih (l.setIfInBounds j true) a' (O.set I U) a7 (ready_mono q (Ne.symm hji)) h3.1 ?_) h2;rw [Array.setIfInBounds_comm _ _ hji];exact h3.2
theorem FM {n g:Nat}{I:Act->Prop} (J:Region.noSelect ops=true) (K:Region.sinkB md ops n=true) (N:Region.chainB md ops n=true) (O:n<ops.size) :
 ∀ (l:List Oper) (k:Nat) (q:Array Bool) (a:Act),(∀ j,j<l.length->l[j]?=ops[k+j]?)->k+l.length=n->HeadInv md ops n q ->
 Region.lexHead md ops g l.length k q=true->wpQuiet P ops C I l a ->
 RR P md ops C n (fun Q U=>Region.seqB md ops g n Q=true/\I U) l.length q a
 | [],k,q,a,_,F,_,G,h=>by
   have:k=n:=by simpa using F
   subst this
   exact ⟨by simpa [Region.lexHead] using G,h⟩
 | o::l,k,q,a,W,F,X,G,h=>by
   have H:ops[k]?=some o:=by simpa using (W 0 (by simp)).symm
   simp only [List.length_cons,Region.lexHead,Bool.and_eq_true] at G
   obtain ⟨⟨hr,hf⟩,a1⟩:=G
   have Y:k<n:=by simp only [List.length_cons] at F;omega
   have a0:k ∈ Region.ready md ops q:=by simpa using hr
   have a2:qOp P ops C k (wpQuiet P ops C I l) a:=by unfold qOp;simp only [H];exact h
   obtain ⟨v,hy,hK⟩:=yieldsIn_of_qOp H a2
   exact KL H (Region.noSelect_spec J) K N O Y (fun Q U hL=>seqB_ready hL.1) l.length q a X (Region.free_spec H hf) a0 hy
    (FM J K N O l (k+1) _ _ (fun j hj=>by have:=W (j+1) (by simp;omega);simpa [Nat.add_assoc,Nat.add_comm 1 j] using this) (by simp only [List.length_cons] at F;omega) (X.set a0 Y) a1 hK)
theorem iI {id:Nat}{Q:Exit->Act->World->Prop}{a:Act}{w:World}{l:List Oper}(n:Nat)(N:P.follows .mixedOrders=true)(F:Region.lexTailB .any l.toArray n=true)(h:wpQuiet P l.toArray (fun w'=>∃n,w'=w.drewN n) (fun C=>∀w',(∃n,w'=w.drewN n)->wpList P l.toArray Q (l.drop n) C w') (l.take n) a):(Code.region id l.toArray true).wp P Q a w:=by
 simp only [Region.lexTailB,Bool.and_eq_true,decide_eq_true_eq]at F;obtain⟨⟨⟨⟨O,G⟩,U⟩,W⟩,X⟩:=F;have a4:n<l.length:=by simpa using G
 have q:(l.take n).length=n:=by simp;omega
 have H:(l.drop n).length=l.toArray.size - n:=by simp
 have Y:HeadInv .any l.toArray n (Array.replicate l.toArray.size false):=⟨by simp,fun j oj _ I=>(by rw [getD_replicate_false]at I;cases I),fun t _ ht=>getD_in (by simpa using ht) (getD_replicate_false _ _)⟩;have a0:=FM (md:=.any) (g:=l.toArray.size - n) O U W G (l.take n) 0 _ a (fun j J=>by have a1:j<n:=(by rw [q]at J;exact J);simp [a1]) (by simpa using q) Y (by rw [q];exact X) h;refine wp_region_any N ?_;have:=qS (Q':=Q) (g:=l.toArray.size - n) (fun a2 C w' a3 K=>by have:=wpAny_of_seq (md:=.any) (Q':=Q) (l.drop n) n a2 C w' (fun j=>by simp [List.getElem?_drop]) (by rw [H];exact K.1) (K.2 w' a3);rwa [H]at this) _ _ _ {w with drawn:=w.drawn+1} ⟨1,rfl⟩ a0;rw [q,show n+(l.toArray.size - n)=l.toArray.size by omega]at this;exact this
end
end Go.Proofs.YtmmoenkmicimcaaGreatDoor
