/- Parts Wh Wg of the proof. -/
import Derived.Test.YtkjplpmogfmhkaaGreatDoorHab
namespace Go.Proofs.YtkjplpmogfmhkaaGreatDoor.Gd
open Go Go.RowKit Go.Proofs.YtkjplpmogfmhkaaGreatDoor
set_option linter.unusedVariables false
def nY (ops:Array Oper) (o:Oper):List Nat:=match o.guard with
 | none=>[]
 | some (j,_)=>match (ops[j]?).bind (·.dst) with
   | some t=>[t]
   | none=>[]
def dX (ops:Array Oper) (o:Oper):List Nat:=bG o++nY ops o
def gwp (P:Program) (ops:Array Oper) (o:Oper) (a:Act) (w:World) (K:Act->World->Prop) (Q:Exit->Act->World->Prop):Prop :=
 if Region.wanted o (yielded ops a.tmps) then o.wp P a w K Q else K (a.put o.dst undef) w
theorem mL {P:Program}{ops:Array Oper}{Q:Exit->Act->World->Prop}{o:Oper}{a:Act}{w:World}{K K':Act->World->Prop} (h:∀ a w,K a w->K' a w) (hh:gwp P ops o a w K Q):gwp P ops o a w K' Q:=by
 unfold gwp at *
 split
 · rename_i c;rw [if_pos c] at hh;exact Oper.wp_mono h hh
 · rename_i c;rw [if_neg c] at hh;exact h _ _ hh
def dT (ops:Array Oper) (o:Oper) (a:Act) (hs:List (Nat × aE)):Prop:=match o.guard with
 | none=>True
 | some (j,b)=>∃ t,(ops[j]?).bind (·.dst)=some t/\hs.lookup t=none/\a.eval (.tmp t)=.bool b
def kV (ops:Array Oper) (o:Oper) (a:Act) (hs:List (Nat × aE)):Prop:=match o.guard with
 | none=>False
 | some (j,b)=>∃ t,(ops[j]?).bind (·.dst)=some t/\hs.lookup t=none/\a.eval (.tmp t)=.bool (!b)
def gB (ops:Array Oper) (o:Oper) (a:Act) (hs:List (Nat × aE)):Bool:=match o.guard with
 | none=>true
 | some (j,b)=>match (ops[j]?).bind (·.dst) with
   | none=>false
   | some t=>(hs.lookup t).isNone && match a.eval (.tmp t) with
     | .bool c=>c == b
     | _=>false
theorem gR {ops:Array Oper}{o:Oper}{a:Act}{hs:List (Nat × aE)} (h:gB ops o a hs=true):dT ops o a hs:=by
 unfold gB at h
 unfold dT
 split
 · trivial
 · rename_i j b hg
   rw [hg] at h
   simp only at h
   split at h
   · cases h
   · rename_i t ht
     rw [Bool.and_eq_true] at h
     refine ⟨t,ht,Option.isNone_iff_eq_none.1 h.1,?_⟩
     have h2:=h.2
     split at h2
     · rename_i c hc
       rw [hc,beq_iff_eq.1 h2]
     · cases h2
theorem uU {ops:Array Oper}{a:Act}{j t:Nat}{b:Bool} (h:(ops[j]?).bind (·.dst)=some t) (hv:a.eval (.tmp t)=.bool b):yielded ops a.tmps j=some b:=by
 unfold yielded
 rw [h]
 simp only [Option.bind_some]
 have:a.tmps[t]?=some (.bool b):=by
  simp only [Act.eval,Array.getD_eq_getD_getElem?] at hv
  cases hc:a.tmps[t]? with
  | none=>rw [hc] at hv;cases hv
  | some v=>rw [hc] at hv;simp only [Option.getD_some] at hv;rw [hv]
 rw [this]
theorem uV {ops:Array Oper}{o:Oper}{j t:Nat}{b:Bool} (hg:o.guard=some (j,b)) (h:(ops[j]?).bind (·.dst)=some t):t ∈ dX ops o:=by
 unfold dX nY
 rw [hg]
 simp only [h]
 simp
theorem kJ {P:Program}{ops:Array Oper}{Q:Exit->Act->World->Prop}{o:Oper}{a a':Act}{hs:List (Nat × aE)}{w:World}{K:Act->World->Prop} (hg:dT ops o a hs) (hsl:∀ t ∈ dX ops o,dA a hs t (a'.eval (.tmp t)) w)
 (h:(∀ t ∈ bG o,dA a hs t (a'.eval (.tmp t)) w)->o.wp P a' w K Q):gwp P ops o a' w K Q:=by
 have h1:=h fun t ht=>hsl t (List.mem_append_left _ ht)
 unfold gwp
 rw [if_pos]
 · exact h1
 · unfold dT at hg
   unfold Region.wanted
   cases hgd:o.guard with
   | none=>rfl
   | some q =>
     obtain ⟨j,b⟩:=q
     rw [hgd] at hg
     obtain ⟨t,e1,e2,e3⟩:=hg
     have e4:=hsl t (uV hgd e1)
     unfold dA at e4
     rw [e2] at e4
     simp only [uU e1 (e4.trans e3),beq_self_eq_true]
theorem uW {P:Program}{ops:Array Oper}{Q:Exit->Act->World->Prop}{o:Oper}{a a':Act}{hs:List (Nat × aE)}{w:World}{K:Act->World->Prop} (hg:kV ops o a hs) (hsl:∀ t ∈ dX ops o,dA a hs t (a'.eval (.tmp t)) w)
 (h:K (a'.put o.dst undef) w):gwp P ops o a' w K Q:=by
 unfold gwp
 rw [if_neg]
 · exact h
 · unfold kV at hg
   unfold Region.wanted
   cases hgd:o.guard with
   | none=>rw [hgd] at hg;exact hg.elim
   | some q =>
     obtain ⟨j,b⟩:=q
     rw [hgd] at hg
     obtain ⟨t,e1,e2,e3⟩:=hg
     have e4:=hsl t (uV hgd e1)
     unfold dA at e4
     rw [e2] at e4
     simp only [uU e1 (e4.trans e3)]
     cases b <;> decide
def gW (o:Oper):Bool:=pU o || (match o.op with | .pick ..=>true | _=>false)
theorem jD {P:Program}{ρ:Operand->Value}{o:Oper} (hp:gW o=true) {w w':World}{f:FuncId}{args:Array Value}:(execOp ρ o).run P w≠.ok (.enter f args) w':=by
 unfold gW at hp
 rw [Bool.or_eq_true] at hp
 rcases hp with hp | hp
 · exact mH hp
 · obtain ⟨dst,op,type,pos,after,guard⟩:=o
   cases op <;> simp only [] at hp <;> first
    | (cases hp;done)
    | skip
   rename_i c x y
   intro h
   unfold execOp at h
   simp only [Sem.run_bind] at h
   cases hs:(asBool (ρ c)).run P w with
   | ok b w1=>rw [hs] at h;simp at h
   | halt b w1=>rw [hs] at h;simp at h
end Go.Proofs.YtkjplpmogfmhkaaGreatDoor.Gd
namespace Go.Proofs.YtkjplpmogfmhkaaGreatDoor
open Go Go.RowKit
def evF (a:Act) (hs:List (Nat × aE)) (f:Nat->Value):Operand->Value
 | .tmp t=>match hs.lookup t with
   | some _=>f t
   | none=>a.eval (.tmp t)
 | x=>a.eval x
def lW (a:Act):Operand->Bool
 | .tmp t=>Nat.blt t a.tmps.size
 | _=>true
theorem NM {a b:Act}{hs:List (Nat × aE)}{f:Nat->Value}{x:Operand} (hz:b.tmps.size=a.tmps.size) (hb:∀ (i:Nat) (h1:i<b.tmps.size) (h2:i<a.tmps.size),b.tmps[i]=if (hs.lookup i).isSome then f i else a.tmps[i]) (h:lW a x=true):b.eval x=evF a hs f x:=by
 cases x with
 | tmp t =>
   have h2:t<a.tmps.size:=cG h
   have h1:t<b.tmps.size:=by rw [hz];exact h2
   have:=hb t h1 h2
   unfold evF
   simp only [Act.eval]
   rw [<- Array.getElem_eq_getD (h:=h1),<- Array.getElem_eq_getD (h:=h2),this]
   cases hs.lookup t <;> rfl
 | _=>rfl
end Go.Proofs.YtkjplpmogfmhkaaGreatDoor
namespace Go.Proofs.YtkjplpmogfmhkaaGreatDoor.Gt
open Go Go.RowKit Go.Proofs.YtkjplpmogfmhkaaGreatDoor
open Go.Proofs.YtkjplpmogfmhkaaGreatDoor.Gd (gB gR dX gwp mL dT kV kJ uW nY gW jD)
set_option linter.unusedVariables false
structure Rl where
 rel:World->World->Prop
 st:Nat->World->World->Prop
 refl:∀ w,rel w w
 tr:∀ {a b c:World},rel a b->rel b c->rel a c
 ext:∀ {a b:World},Ext a b->rel a b
 sub:∀ {T:Nat}{a b:World},st T a b->rel a b
 dx:World->World->Prop
 dxe:∀ {a b:World},Ext a b->dx a b
 dxs:∀ {a b:World},dx a b->rel a b
def Rl.stable (r:Rl) (g:aE):Prop:=∀ v w w',r.rel w w'->g v w->g v w'
theorem Rl.stable_eq (r:Rl) (v:Value):r.stable (fun u _=>u=v):=fun _ _ _ _ h=>h
def Rl.Lt (r:Rl) (w:World):={ w':World // r.rel w w' }
instance ltNe (r:Rl) (w:World):Nonempty (r.Lt w):=⟨⟨w,r.refl w⟩⟩
def opT (o:Oper):Nat:=match o.op with | .store t _ _=>t | _=>0
def opP (o:Oper):Nat:=match o.op with | .store _ (.tmp p) _=>p | _=>0
def stp (r:Rl) (o:Oper) (w w':World):Prop:=match o.dst with | some _=>r.dx w w' | none=>r.st (opT o) w w'
def stb (r:Rl) (o:Oper) (g:aE):Prop:=match o.dst with | some _=>r.stable g | none=>(∀ v w w',r.dx w w'->g v w->g v w')/\∀ T,T≠opT o->∀ v w w',r.st T w w'->g v w->g v w'
theorem RM {r:Rl}{o:Oper}{w w':World} (h:stp r o w w'):r.rel w w':=by
 unfold stp at h
 split at h
 · exact r.dxs h
 · exact r.sub h
structure XV (r:Rl) (ops:Array Oper) (n:Nat) (a0:Act) (w0:World) (good:Nat->aE) (listed:Array Bool) (a:Act) (w:World):Prop where
 ext:r.rel w0 w
 defers:a.defers=a0.defers
 size:a.tmps.size=a0.tmps.size
 clo:∀ j,j<n->listed.getD j false=true->∀ oj,ops[j]?=some oj->∀ e ∈ oj.after,Region.binds .any e=true->listed.getD e.on false=true
 done:∀ j,j<n->listed.getD j false=true->∀ oj,ops[j]?=some oj->∀ d,oj.dst=some d->good j (a.eval (.tmp d)) w
 kept:∀ j,j<n->listed.getD j false=true->∀ oj,ops[j]?=some oj->oj.dst=none->good j (a.eval (.tmp (opP oj))) w
 old:∀ t,(∀ j,j<n->listed.getD j false=true->∀ oj,ops[j]?=some oj->oj.dst≠some t)->a.eval (.tmp t)=a0.eval (.tmp t)
def wpX (r:Rl) (P:Program) (ops:Array Oper) (Q:Exit->Act->World->Prop) (w0:World) (R:Act->World->Prop):List (Nat × aE)->List Oper->Act->List (Nat × aE)->Prop
 | ss,[],a,hs=>∀ a' w,r.rel w0 w->a'.defers=a.defers->a'.tmps.size=a.tmps.size->(∀ t,dA a hs t (a'.eval (.tmp t)) w)->(∀ q ∈ ss,q.2 (a'.eval (.tmp q.1)) w)->R a' w
 | ss,o::rest,a,hs=>(∃ d g,o.dst=some d/\d<a.tmps.size/\r.stable g /\
    (∀ a' w,r.rel w0 w->(∀ t ∈ dX ops o,dA a hs t (a'.eval (.tmp t)) w)->gwp P ops o a' w (fun a'' w''=>∃ v,a''=a'.put o.dst v/\r.dx w w''/\g v w'') Q) /\
    ((∃ v,g=(fun u _=>u=v)/\wpX r P ops Q w0 R ss rest (a.put (some d) v) hs) \/ wpX r P ops Q w0 R ss rest (a.put (some d) undef) ((d,g)::hs))) \/
   (∃ q:aE,o.dst=none/\(∀ v w w',r.dx w w'->q v w->q v w')/\(∀ T,T≠opT o->∀ v w w',r.st T w w'->q v w->q v w') /\
     (∀ a' w,r.rel w0 w->(∀ t ∈ dX ops o,dA a hs t (a'.eval (.tmp t)) w)->gwp P ops o a' w (fun a'' w''=>∃ v,a''=a'.put o.dst v/\r.st (opT o) w w''/\q (a'.eval (.tmp (opP o))) w'') Q) /\
     wpX r P ops Q w0 R ((opP o,q)::ss) rest a hs)
section
variable {r:Rl}{P:Program}{ops:Array Oper}{Q:Exit->Act->World->Prop}
def Ob (r:Rl) (P:Program) (ops:Array Oper) (Q:Exit->Act->World->Prop) (n:Nat) (a0:Act) (w0:World) (good:Nat->aE) (i:Nat) (o:Oper):Prop :=
 (∀ d,o.dst=some d->d<a0.tmps.size)/\stb r o (good i)/\∀ a' w,r.rel w0 w->(∀ t ∈ dX ops o,sU ops n a0 good t (a'.eval (.tmp t)) w) ->
   gwp P ops o a' w (fun a'' w''=>∃ v,a''=a'.put o.dst v/\stp r o w w''/\(∀ d,o.dst=some d->good i v w'')/\(o.dst=none->good i (a'.eval (.tmp (opP o))) w'')) Q
def gU (ops:Array Oper) (n:Nat):Bool :=
 decide (n<=ops.size) && (List.range n).all fun i=>match ops[i]? with
  | none=>false
  | some o=>(o.dst.isSome || (dX ops o).contains (opP o)) && (o.after.all (fun e=>!Region.binds .any e || decide (e.on<i)) &&
    (List.range n).all (fun j=>match ops[j]? with
      | none=>false
      | some oj=>(j == i || (oj.dst.isNone && o.dst.isNone && opT oj != opT o) || oj.dst != o.dst) && ((dX ops o).all fun t=>oj.dst != some t || o.after.any fun e=>Region.binds .any e && e.on == j)))
structure pD (ops:Array Oper) (n:Nat):Prop where
 le:n<=ops.size
 ptr:∀ i o,i<n->ops[i]?=some o->o.dst=none->opP o ∈ dX ops o
 back:∀ i o,i<n->ops[i]?=some o->∀ e ∈ o.after,Region.binds .any e=true->e.on<i
 one:∀ i o j oj,i<n->j<n->ops[i]?=some o->ops[j]?=some oj->j≠i->(oj.dst=none/\o.dst=none/\opT oj≠opT o) \/ oj.dst≠o.dst
 wait:∀ i o j oj,i<n->j<n->ops[i]?=some o->ops[j]?=some oj->∀ t ∈ dX ops o,oj.dst=some t->∃ e ∈ o.after,Region.binds .any e=true/\e.on=j
theorem rO {n:Nat} (h:gU ops n=true):pD ops n:=by
 unfold gU at h
 simp only [Bool.and_eq_true,decide_eq_true_eq] at h
 obtain ⟨hle,hall⟩:=h
 have key:∀ i o,i<n->ops[i]?=some o->((o.dst.isSome || (dX ops o).contains (opP o)) && (o.after.all (fun e=>!Region.binds .any e || decide (e.on<i)) &&
  (List.range n).all (fun j=>match ops[j]? with
    | none=>false
    | some oj=>(j == i || (oj.dst.isNone && o.dst.isNone && opT oj != opT o) || oj.dst != o.dst) && ((dX ops o).all fun t=>oj.dst != some t || o.after.any fun e=>Region.binds .any e && e.on == j))))=true:=fun i o hi ho=>by
  have:=List.all_eq_true.1 hall i (List.mem_range.2 hi)
  rw [ho] at this
  exact this
 have key2:∀ i o j oj,i<n->j<n->ops[i]?=some o->ops[j]?=some oj->((j == i || (oj.dst.isNone && o.dst.isNone && opT oj != opT o) || oj.dst != o.dst) && ((dX ops o).all fun t=>oj.dst != some t || o.after.any fun e=>Region.binds .any e && e.on == j))=true:=fun i o j oj hi hj ho hoj=>by
  have:=key i o hi ho
  simp only [Bool.and_eq_true] at this
  have:=List.all_eq_true.1 this.2.2 j (List.mem_range.2 hj)
  rw [hoj] at this
  exact this
 refine ⟨hle,fun i o hi ho hd=>?_,fun i o hi ho e he hb=>?_,fun i o j oj hi hj ho hoj hne=>?_,fun i o j oj hi hj ho hoj t ht hd=>?_⟩
 · have:=key i o hi ho
   simp only [Bool.and_eq_true,Bool.or_eq_true] at this
   rcases this.1 with h | h
   · rw [hd] at h;cases h
   · simpa using h
 · have:=key i o hi ho
   simp only [Bool.and_eq_true] at this
   have h2:=Array.all_eq_true_iff_forall_mem.1 this.2.1 e he
   simp only [hb,Bool.not_true,Bool.false_or,decide_eq_true_eq] at h2
   exact h2
 · have:=key2 i o j oj hi hj ho hoj
   simp only [Bool.and_eq_true,Bool.or_eq_true,beq_iff_eq,bne_iff_ne] at this
   rcases this.1 with (h | ⟨⟨h1,h2⟩,h3⟩) | h
   · exact absurd h hne
   · exact .inl ⟨Option.isNone_iff_eq_none.1 h1,Option.isNone_iff_eq_none.1 h2,h3⟩
   · exact .inr h
 · have:=key2 i o j oj hi hj ho hoj
   simp only [Bool.and_eq_true] at this
   have h2:=List.all_eq_true.1 this.2 t ht
   simp only [Bool.or_eq_true,bne_iff_ne,hd,ne_eq,not_true_eq_false,false_or] at h2
   obtain ⟨e,he,hb⟩:=Array.any_eq_true'.1 h2
   simp only [Bool.and_eq_true,beq_iff_eq] at hb
   exact ⟨e,he,hb.1,hb.2⟩
theorem NN (a:Act) (v:Value):a.put none v=a:=rfl
theorem uT {n:Nat}{a0:Act}{w0:World}{good:Nat->aE} (hk:pD ops n) (ht:iN ops n=true) (hob:∀ i o,i<n->ops[i]?=some o->Ob r P ops Q n a0 w0 good i o)
 (hfin:∀ a w,r.rel w0 w->a.defers=a0.defers->a.tmps.size=a0.tmps.size->(∀ t,sU ops n a0 good t (a.eval (.tmp t)) w)->(∀ j,j<n->∀ oj,ops[j]?=some oj->oj.dst=none->good j (a.eval (.tmp (opP oj))) w)->wpList P ops Q (ops.toList.drop n) a w) :
 ∀ (f:Nat) (listed:Array Bool) (a:Act) (w:World),((List.range n).filter fun i=>!listed.getD i false).length=f->HeadInv .any ops n listed->XV r ops n a0 w0 good listed a w ->
  wpAny P .any ops Q (f+(ops.size - n)) listed a w:=by
 unfold iN at ht
 simp only [Bool.and_eq_true,Bool.or_eq_true,beq_iff_eq] at ht
 obtain ⟨htail,hseq⟩:=ht
 intro f
 induction f with
 | zero =>
   intro listed a w hf inv hx
   have hall:∀ i,i<n->listed.getD i false=true:=fun i hi=>by
    have h0:=ZB hf
    cases hl:listed.getD i false with
    | true=>rfl
    | false =>
      have:i ∈ (List.range n).filter fun i=>!listed.getD i false:=List.mem_filter.2 ⟨List.mem_range.2 hi,by simp only [hl];rfl⟩
      rw [h0] at this
      cases this
   have hle:=hk.le
   have hls:=inv.size
   have hl:listed=Array.replicate n true++Array.replicate (ops.size - n) false:=by
    apply Array.ext
    · simp;omega
    · intro i h1 h2
      by_cases hin:i<n
      · have:=hall i hin
        rw [Array.getElem_append_left (by simpa using hin)]
        simpa [h1] using this
      · have:=inv.tail i (by omega) (by omega)
        rw [Array.getElem_append_right (by simp;omega)]
        simpa [h1] using this
   rw [YR]
   have hd:=hfin a w hx.ext hx.defers hx.size (fun t=>⟨fun j hj oj hoj hd=>hx.done j hj (hall j hj) oj hoj t hd,fun hno=>hx.old t (fun j hj _ oj hoj=>hno j hj oj hoj)⟩) (fun j hj oj hoj hd=>hx.kept j hj (hall j hj) oj hoj hd)
   have:=wpAny_of_seq (md:=.any) (ops:=ops) (Q':=Q) (ops.toList.drop n) n listed a w (fun j=>by simp [List.getElem?_drop]) (by
    rw [hl,show (ops.toList.drop n).length=ops.size - n by simp]
    exact hseq) hd
   rwa [show (ops.toList.drop n).length=ops.size - n by simp] at this
 | succ f ih =>
   intro listed a w hf inv hx
   have hle:=hk.le
   have hls:=inv.size
   have hex:∃ i,i<n/\listed.getD i false=false:=by
    cases hfl:(List.range n).filter fun i=>!listed.getD i false with
    | nil=>rw [hfl] at hf;simp at hf
    | cons i r =>
      have:i ∈ (List.range n).filter fun i=>!listed.getD i false:=by rw [hfl];exact YZ
      obtain ⟨h1,h2⟩:=List.mem_filter.1 this
      exact ⟨i,List.mem_range.1 h1,by simpa using h2⟩
   have hleast:∀ m,(∃ i,i<=m/\i<n/\listed.getD i false=false)->∃ i,i<n/\listed.getD i false=false/\∀ j,j<i->listed.getD j false=true:=by
    intro m
    induction m with
    | zero =>
      rintro ⟨i,h0,hi,hl⟩
      exact ⟨i,hi,hl,fun j hj=>by omega⟩
    | succ m ihm =>
      rintro ⟨i,h0,hi,hl⟩
      by_cases hb:∃ j,j<=m/\j<n/\listed.getD j false=false
      · exact ihm hb
      · refine ⟨i,hi,hl,fun j hj=>?_⟩
        cases hjl:listed.getD j false with
        | true=>rfl
        | false=>exact absurd ⟨j,by omega,by omega,hjl⟩ hb
   obtain ⟨i0,hi0,hl0,hmin⟩:∃ i,i<n/\listed.getD i false=false/\∀ j,j<i->listed.getD j false=true:=by
    obtain ⟨i,hi,hl⟩:=hex
    exact hleast i ⟨i,YF _,hi,hl⟩
   obtain ⟨o0,ho0⟩:∃ o,ops[i0]?=some o:=⟨ops[i0]'(by omega),Array.getElem?_eq_getElem (by omega)⟩
   have hr0:i0 ∈ Region.ready .any ops listed:=mem_ready.2 ⟨getD_in (by omega) hl0,o0,ho0,fun e he hb=>hmin _ (hk.back i0 o0 hi0 ho0 e he hb)⟩
   rw [show f+1+(ops.size - n)=(f+(ops.size - n))+1 by omega]
   refine ⟨fun h=>(by rw [h] at hr0;cases hr0),fun i hi=>?_⟩
   have hir:=mem_ready.1 hi
   have hin:i<n:=by
    rcases Nat.lt_or_ge i n with h | h
    · exact h
    · rcases htail with he | ⟨hs,hc⟩
      · obtain ⟨o,ho,_⟩:=hir.2
        have:=(Array.getElem?_eq_some_iff.1 ho).1
        omega
      · have hn:n<ops.size:=by
         obtain ⟨o,ho,_⟩:=hir.2
         have:=(Array.getElem?_eq_some_iff.1 ho).1
         omega
        exact absurd hi (tail_waits hs hc hn inv _ i0 rfl hi0 (getD_in (by omega) hl0) i h)
   obtain ⟨hun,o,ho,hall⟩:=hir
   have hlf:listed.getD i false=false:=getD_both hun
   obtain ⟨hds,hst,hwp⟩:=hob i o hin ho
   have hslots:∀ t ∈ dX ops o,sU ops n a0 good t (a.eval (.tmp t)) w:=fun t ht=>by
    refine ⟨fun j hj oj hoj hdj=>?_,fun hno=>hx.old t (fun j hj _ oj hoj=>hno j hj oj hoj)⟩
    obtain ⟨e,he,hb,hon⟩:=hk.wait i o j oj hin hj ho hoj t ht hdj
    exact hx.done j hj (by rw [<- hon];exact hall e he hb) oj hoj t hdj
   unfold wpOp
   simp only [ho]
   have hgo:∀ K:Act->World->Prop,gwp P ops o a w K Q->(if Region.wanted o (yielded ops a.tmps)=true then o.wp P a w K Q \/ (o.asks P a w/\LetsOut Q) else K (a.put o.dst undef) w):=fun K h=>by
    unfold gwp at h
    split
    · rename_i c;rw [if_pos c] at h;exact .inl h
    · rename_i c;rw [if_neg c] at h;exact h
   refine hgo _ (mL ?_ (hwp a w hx.ext hslots))
   rintro a'' w'' ⟨v,rfl,hstp,hg1,hg2⟩
   have hext:=RM hstp
   have hclo:∀ j,j<n->(listed.setIfInBounds i true).getD j false=true->∀ oj,ops[j]?=some oj->∀ e ∈ oj.after,Region.binds .any e=true->(listed.setIfInBounds i true).getD e.on false=true:=fun j hj hjl oj hoj e he hb=>by
    have up:∀ k,listed.getD k false=true->(listed.setIfInBounds i true).getD k false=true:=fun k hk'=>getD_set_true hk'
    by_cases hji:j=i
    · subst hji
      have:oj=o:=Option.some.inj (hoj.symm.trans ho)
      subst this
      exact up _ (hall e he hb)
    · rw [getD_set_ne false (Ne.symm hji)] at hjl
      exact up _ (hx.clo j hj hjl oj hoj e he hb)
   refine ih (listed.setIfInBounds i true) _ w'' ?_ (inv.set hi hin) ?_
   · have:=CQ (p:=fun j=>!listed.getD j false) (q:=fun j=>!(listed.setIfInBounds i true).getD j false) hin (by simp only [hlf];rfl) (by
      have:(listed.setIfInBounds i true).getD i false=true:=by simp [show i<listed.size by omega]
      simp only [this];rfl) (fun j hj=>by simp only [getD_set_ne false (Ne.symm hj)])
     omega
   · cases hd:o.dst with
     | none =>
       rw [NN]
       have hS:r.st (opT o) w w'':=by unfold stp at hstp;rw [hd] at hstp;exact hstp
       refine ⟨r.tr hx.ext hext,hx.defers,hx.size,hclo,fun j hj hjl oj hoj e he=>?_,fun j hj hjl oj hoj he=>?_,fun t hno=>?_⟩
       · by_cases hji:j=i
         · subst hji
           have:oj=o:=Option.some.inj (hoj.symm.trans ho)
           subst this
           rw [hd] at he
           cases he
         · rw [getD_set_ne false (Ne.symm hji)] at hjl
           obtain ⟨_,hstj,_⟩:=hob j oj hj hoj
           unfold stb at hstj
           rw [he] at hstj
           exact hstj _ _ _ hext (hx.done j hj hjl oj hoj e he)
       · by_cases hji:j=i
         · subst hji
           have:oj=o:=Option.some.inj (hoj.symm.trans ho)
           subst this
           exact hg2 hd
         · rw [getD_set_ne false (Ne.symm hji)] at hjl
           obtain ⟨_,hstj,_⟩:=hob j oj hj hoj
           unfold stb at hstj
           rw [he] at hstj
           have hT:opT o≠opT oj:=by
            rcases hk.one i o j oj hin hj ho hoj hji with h | h
            · exact Ne.symm h.2.2
            · exact absurd (he.trans hd.symm) h
           exact hstj.2 _ hT _ _ _ hS (hx.kept j hj hjl oj hoj he)
       · exact hx.old t fun j hj hjl oj hoj=>hno j hj (getD_set_true hjl) oj hoj
     | some d =>
       have hdz:=hds d hd
       have hE:r.dx w w'':=by unfold stp at hstp;rw [hd] at hstp;exact hstp
       refine ⟨r.tr hx.ext hext,hx.defers,by simp [Act.put,hx.size],hclo,fun j hj hjl oj hoj e he=>?_,fun j hj hjl oj hoj he=>?_,fun t hno=>?_⟩
       · by_cases hji:j=i
         · subst hji
           have:oj=o:=Option.some.inj (hoj.symm.trans ho)
           subst this
           have:e=d:=Option.some.inj (he.symm.trans hd)
           subst this
           rw [aW (by rw [hx.size];exact hdz)]
           exact hg1 _ hd
         · rw [getD_set_ne false (Ne.symm hji)] at hjl
           have hne:d≠e:=fun h=>by
            rcases hk.one i o j oj hin hj ho hoj hji with q | q
            · rw [he] at q;cases q.1
            · exact q (by rw [he,hd,h])
           rw [eD hne]
           obtain ⟨_,hstj,_⟩:=hob j oj hj hoj
           unfold stb at hstj
           rw [he] at hstj
           exact hstj _ _ _ hext (hx.done j hj hjl oj hoj e he)
       · by_cases hji:j=i
         · subst hji
           have:oj=o:=Option.some.inj (hoj.symm.trans ho)
           subst this
           rw [hd] at he
           cases he
         · rw [getD_set_ne false (Ne.symm hji)] at hjl
           have hne:d≠opP oj:=fun h=>by
            obtain ⟨e,he',hb,hon⟩:=hk.wait j oj i o hj hin hoj ho (opP oj) (hk.ptr j oj hj hoj he) (by rw [hd,h])
            have:=hx.clo j hj hjl oj hoj e he' hb
            rw [hon,hlf] at this
            cases this
           rw [eD hne]
           obtain ⟨_,hstj,_⟩:=hob j oj hj hoj
           unfold stb at hstj
           rw [he] at hstj
           exact hstj.1 _ _ _ hE (hx.kept j hj hjl oj hoj he)
       · have hne:d≠t:=fun h=>hno i hin (by simp [show i<listed.size by omega]) o ho (by rw [hd,h])
         rw [eD hne]
         exact hx.old t fun j hj hjl oj hoj=>hno j hj (getD_set_true hjl) oj hoj
theorem pT {n:Nat}{a0:Act}{w0:World}{R:Act->World->Prop} (hk:pD ops n) :
 ∀ (rest:List Oper) (k:Nat) (a:Act) (hs ss:List (Nat × aE)) (gs:List aE),k+rest.length=n->(∀ j,j<rest.length->rest[j]?=ops[k+j]?)->JX ops n a0 k a hs gs ->
  (∀ q ∈ ss,∃ j oj,j<k/\ops[j]?=some oj/\oj.dst=none/\q.1=opP oj/\q.2=gs.getD j (fun _ _=>True))->wpX r P ops Q w0 R ss rest a hs ->
  ∃ gs':List aE,(∀ j,j<k->gs'.getD j (fun _ _=>True)=gs.getD j (fun _ _=>True))/\(∀ i o,k<=i->i<n->ops[i]?=some o->Ob r P ops Q n a0 w0 (fun j=>gs'.getD j (fun _ _=>True)) i o) /\
   (∀ a' w,r.rel w0 w->a'.defers=a0.defers->a'.tmps.size=a0.tmps.size->(∀ t,sU ops n a0 (fun j=>gs'.getD j (fun _ _=>True)) t (a'.eval (.tmp t)) w)->(∀ j,j<n->∀ oj,ops[j]?=some oj->oj.dst=none->gs'.getD j (fun _ _=>True) (a'.eval (.tmp (opP oj))) w)->R a' w)
 | [],k,a,hs,ss,gs,hkn,_,J,hss,h=>by
   have hkn':k=n:=by simpa using hkn
   subst hkn'
   refine ⟨gs,fun _ _=>rfl,fun i o h1 h2 _=>by omega,fun a' w he hd hz hsl hst=>h a' w he (hd.trans J.defers.symm) (hz.trans J.size.symm) (fun t=>J.slot t _ _ (hsl t).1 (hsl t).2) fun q hq=>?_⟩
   obtain ⟨j,oj,hj,hoj,hdj,e1,e2⟩:=hss q hq
   rw [e1,e2]
   exact hst j hj oj hoj hdj
 | o::rest,k,a,hs,ss,gs,hkn,hl,J,hss,h=>by
   simp only [YP] at hkn
   have hkn':k<n:=by omega
   have h0:ops[k]?=some o:=by simpa using (hl 0 (by simp)).symm
   have hl':∀ j,j<rest.length->rest[j]?=ops[k+1+j]?:=fun j hj=>by
    have:=hl (j+1) (by simp;omega)
    simpa [YM,Nat.add_comm 1 j] using this
   have hgk:∀ (g:aE) j,j<k->(gs++[g]).getD j (fun _ _=>True)=gs.getD j (fun _ _=>True):=fun g j hj=>by
    simp [List.getD_eq_getElem?_getD,List.getElem?_append_left (show j<gs.length by rw [J.len];exact hj)]
   have hgk':∀ g:aE,(gs++[g]).getD k (fun _ _=>True)=g:=fun g=>by
    simp [List.getD_eq_getElem?_getD,<- J.len]
   have hJ:∃ (g:aE) (a1:Act) (hs1 ss1:List (Nat × aE)),(∀ d,o.dst=some d->d<a0.tmps.size)/\stb r o g /\
    (∀ a' w,r.rel w0 w->(∀ t ∈ dX ops o,dA a hs t (a'.eval (.tmp t)) w)->gwp P ops o a' w (fun a'' w''=>∃ v,a''=a'.put o.dst v/\stp r o w w''/\(∀ d,o.dst=some d->g v w'')/\(o.dst=none->g (a'.eval (.tmp (opP o))) w'')) Q) /\
    JX ops n a0 (k+1) a1 hs1 (gs++[g])/\(∀ q ∈ ss1,∃ j oj,j<k+1/\ops[j]?=some oj/\oj.dst=none/\q.1=opP oj/\q.2=(gs++[g]).getD j (fun _ _=>True))/\wpX r P ops Q w0 R ss1 rest a1 hs1:=by
    have hold:∀ (g:aE) (q:Nat × aE),q ∈ ss->∃ j oj,j<k+1/\ops[j]?=some oj/\oj.dst=none/\q.1=opP oj/\q.2=(gs++[g]).getD j (fun _ _=>True):=fun g q hq=>by
     obtain ⟨j,oj,hj,hoj,hdj,e1,e2⟩:=hss q hq
     exact ⟨j,oj,by omega,hoj,hdj,e1,by rw [hgk g j hj];exact e2⟩
    rcases h with ⟨d,g,hd,hds,hst,hwp,hrest⟩ | ⟨q,hd,hst,hst2,hwp,hrest⟩
    · have hstp:∀ w w'',r.dx w w''->stp r o w w'':=fun w w'' h=>by unfold stp;rw [hd];exact h
      have hwp':∀ a' w,r.rel w0 w->(∀ t ∈ dX ops o,dA a hs t (a'.eval (.tmp t)) w)->gwp P ops o a' w (fun a'' w''=>∃ v,a''=a'.put o.dst v/\stp r o w w''/\(∀ d,o.dst=some d->g v w'')/\(o.dst=none->g (a'.eval (.tmp (opP o))) w'')) Q:=fun a' w h1 h2 =>
       mL (fun a'' w'' ⟨v,e1,e2,e3⟩=>⟨v,e1,hstp _ _ e2,fun _ _=>e3,fun q=>by rw [hd] at q;cases q⟩) (hwp a' w h1 h2)
      have hstb:stb r o g:=by unfold stb;rw [hd];exact hst
      have hdz:∀ d',o.dst=some d'->d'<a0.tmps.size:=fun d' h=>by
       have:d'=d:=Option.some.inj (h.symm.trans hd)
       rw [this,<- J.size];exact hds
      have hno:∀ g',hs.lookup d=some g'->False:=fun g' hg'=>by
       obtain ⟨j,oj,hj,hoj,hdj⟩:=J.keys d g' hg'
       rcases hk.one k o j oj hkn' (by omega) h0 hoj (by omega) with q | q
       · rw [hd] at q;cases q.2.1
       · exact q (by rw [hdj,hd])
      have hnone:hs.lookup d=none:=by
       cases hc:hs.lookup d with
       | none=>rfl
       | some g'=>exact (hno g' hc).elim
      have hself:∀ u w,(∀ j,j<k+1->∀ oj,ops[j]?=some oj->oj.dst=some d->((gs++[g]).getD j (fun _ _=>True)) u w)->g u w:=fun u w h1=>by
       have:=h1 k (by omega) o h0 hd
       rwa [hgk'] at this
      have hother:∀ t u w,d≠t->(∀ j,j<k+1->∀ oj,ops[j]?=some oj->oj.dst=some t->((gs++[g]).getD j (fun _ _=>True)) u w)->((∀ j,j<k+1->∀ oj,ops[j]?=some oj->oj.dst≠some t)->u=a0.eval (.tmp t))->dA a hs t u w:=fun t u w htd h1 h2 =>
       J.slot t u w (fun j hj oj hoj hdj=>by have:=h1 j (by omega) oj hoj hdj;rwa [hgk g j hj] at this) (fun hn=>h2 fun j hj oj hoj=>by
        by_cases hjk:j=k
        · subst hjk
          have:oj=o:=Option.some.inj (hoj.symm.trans h0)
          subst this
          rw [hd];intro he;exact htd (Option.some.inj he)
        · exact hn j (by omega) oj hoj)
      rcases hrest with ⟨v,hg,hx⟩ | hx
      · refine ⟨g,a.put (some d) v,hs,ss,hdz,hstb,hwp',⟨by simp [J.len],J.defers,by simp [Act.put,J.size],fun t g' ht=>?_,fun t u w h1 h2=>?_⟩,hold g,hx⟩
        · obtain ⟨j,oj,hj,r⟩:=J.keys t g' ht
          exact ⟨j,oj,by omega,r⟩
        · by_cases htd:d=t
          · subst htd
            have:=hself u w h1
            rw [hg] at this
            unfold dA
            rw [hnone]
            simp only [aW hds]
            exact this
          · have:=hother t u w htd h1 h2
            unfold dA at *
            cases hc:hs.lookup t with
            | some g'=>simp only [hc] at this ⊢;exact this
            | none=>simp only [hc] at this ⊢;rw [eD htd];exact this
      · refine ⟨g,a.put (some d) undef,(d,g)::hs,ss,hdz,hstb,hwp',⟨by simp [J.len],J.defers,by simp [Act.put,J.size],fun t g' ht=>?_,fun t u w h1 h2=>?_⟩,hold g,hx⟩
        · by_cases htd:t=d
          · subst htd;exact ⟨k,o,by omega,h0,hd⟩
          · have e:(t == d)=false:=by simpa using htd
            simp only [List.lookup_cons,e] at ht
            obtain ⟨j,oj,hj,r⟩:=J.keys t g' ht
            exact ⟨j,oj,by omega,r⟩
        · by_cases htd:d=t
          · subst htd
            unfold dA
            simp only [List.lookup_cons,beq_self_eq_true]
            exact hself u w h1
          · have:=hother t u w htd h1 h2
            have e:(t == d)=false:=by simpa using fun h=>htd h.symm
            unfold dA at *
            simp only [List.lookup_cons,e]
            cases hc:hs.lookup t with
            | some g'=>simp only [hc] at this ⊢;exact this
            | none=>simp only [hc] at this ⊢;rw [eD htd];exact this
    · have hstp:∀ w w'',r.st (opT o) w w''->stp r o w w'':=fun w w'' h=>by unfold stp;rw [hd];exact h
      refine ⟨q,a,hs,(opP o,q)::ss,fun d' h=>(by rw [hd] at h;cases h),(by unfold stb;rw [hd];exact ⟨hst,hst2⟩),fun a' w h1 h2=>mL (fun a'' w'' ⟨v,e1,e2,e3⟩=>⟨v,e1,hstp _ _ e2,fun d' h=>(by rw [hd] at h;cases h),fun _=>e3⟩) (hwp a' w h1 h2),
       ⟨by simp [J.len],J.defers,J.size,fun t g' ht=>?_,fun t u w h1 h2=>?_⟩,fun p hp=>?_,hrest⟩
      · obtain ⟨j,oj,hj,r⟩:=J.keys t g' ht
        exact ⟨j,oj,by omega,r⟩
      · exact J.slot t u w (fun j hj oj hoj hdj=>by have:=h1 j (by omega) oj hoj hdj;rwa [hgk q j hj] at this) (fun hn=>h2 fun j hj oj hoj=>by
         by_cases hjk:j=k
         · subst hjk
           have:oj=o:=Option.some.inj (hoj.symm.trans h0)
           subst this
           rw [hd];intro he;cases he
         · exact hn j (by omega) oj hoj)
      · rcases List.mem_cons.1 hp with rfl | hp
        · exact ⟨k,o,by omega,h0,hd,rfl,(hgk' q).symm⟩
        · exact hold q p hp
   obtain ⟨g,a1,hs1,ss1,hdz,hstb,hwp,J1,hss1,hx1⟩:=hJ
   obtain ⟨gs',e1,e2,e3⟩:=pT hk rest (k+1) a1 hs1 ss1 (gs++[g]) (by omega) hl' J1 hss1 hx1
   refine ⟨gs',fun j hj=>by rw [e1 j (by omega),hgk g j hj],fun i oi h1 h2 hoi=>?_,e3⟩
   by_cases hik:i=k
   · subst hik
     have:oi=o:=Option.some.inj (hoi.symm.trans h0)
     subst this
     have hgi:gs'.getD i (fun _ _=>True)=g:=by rw [e1 i (by omega),hgk']
     refine ⟨hdz,by show stb r oi (gs'.getD i (fun _ _=>True));rw [hgi];exact hstb,fun a' w he hsl=>?_⟩
     show gwp P ops oi a' w (fun a'' w''=>∃ v,a''=a'.put oi.dst v/\stp r oi w w''/\(∀ d,oi.dst=some d->gs'.getD i (fun _ _=>True) v w'')/\(oi.dst=none->gs'.getD i (fun _ _=>True) (a'.eval (.tmp (opP oi))) w'')) Q
     rw [hgi]
     refine hwp a' w he fun t ht=>?_
     have hs1:=hsl t ht
     refine J.slot t _ _ (fun j hj oj hoj hdj=>?_) (fun hn=>hs1.2 fun j hj oj hoj hdj=>?_)
     · have:=hs1.1 j (by omega) oj hoj hdj
       simp only [e1 j (by omega),hgk g j hj] at this
       exact this
     · obtain ⟨e,he,hb,hon⟩:=hk.wait i oi j oj hkn' hj h0 hoj t ht hdj
       have:=hk.back i oi hkn' h0 e he hb
       exact hn j (by omega) oj hoj hdj
   · exact e2 i oi (by omega) h2 hoi
theorem uG {a:Act}{w:World}{l:List Oper} (n:Nat) (hB:(gU l.toArray n && iN l.toArray n)=true)
 (h:wpX r P l.toArray Q w (fun a' w'=>wpList P l.toArray Q (l.drop n) a' w') [] (l.take n) a []):wpAny P .any l.toArray Q l.toArray.size (Array.replicate l.toArray.size false) a w:=by
 simp only [Bool.and_eq_true] at hB
 have hk:=rO hB.1
 have hle:n<=l.length:=by simpa using hk.le
 have htl:(l.take n).length=n:=by simp;omega
 obtain ⟨gs,_,hob,hfin⟩:=pT (a0:=a) hk (l.take n) 0 a [] [] [] (by rw [htl];omega) (fun j hj=>by
  rw [htl] at hj
  simp [hj]) ⟨rfl,rfl,rfl,fun t g h=>(by cases h),fun t v w' _ h2=>h2 (fun j hj=>by omega)⟩ (fun q hq=>by cases hq) h
 have:=uT (P:=P) (Q:=Q) (n:=n) (a0:=a) (w0:=w) (good:=fun j=>gs.getD j (fun _ _=>True)) hk hB.2 (fun i o hi ho=>hob i o (YK _) hi ho) hfin
  (((List.range n).filter fun i=>!(Array.replicate l.toArray.size false).getD i false).length) (Array.replicate l.toArray.size false) a w rfl
  ⟨by simp,fun j oj _ hl=>(by rw [getD_replicate_false] at hl;cases hl),fun t _ ht=>getD_in (by simpa using ht) (getD_replicate_false _ _)⟩
  ⟨r.refl _,rfl,rfl,fun j _ hl=>(by rw [getD_replicate_false] at hl;cases hl),fun j _ hl=>(by rw [getD_replicate_false] at hl;cases hl),fun j _ hl=>(by rw [getD_replicate_false] at hl;cases hl),fun t _=>rfl⟩
 have hcnt:((List.range n).filter fun i=>!(Array.replicate l.toArray.size false).getD i false).length=n:=by
  have:((List.range n).filter fun i=>!(Array.replicate l.toArray.size false).getD i false)=List.range n:=List.filter_eq_self.2 fun i _=>by rw [getD_replicate_false];rfl
  rw [this,List.length_range]
 rw [hcnt] at this
 rw [show n+(l.toArray.size - n)=l.toArray.size by simp;omega] at this
 exact this
theorem aI {id:Nat}{a:Act}{w:World}{l:List Oper} (n:Nat) (hm:P.follows .mixedOrders=true) (hB:(gU l.toArray n && iN l.toArray n)=true)
 (h:∀ w1,r.rel w w1->wpX r P l.toArray Q w1 (fun a' w'=>wpList P l.toArray Q (l.drop n) a' w') [] (l.take n) a []):(Code.region id l.toArray true).wp P Q a w :=
 wp_region_any hm (uG n hB (h w.drew (r.ext (Below.refl _ _).drew)))
end
section
variable {r:Rl}{P:Program}{ops:Array Oper}{Q:Exit->Act->World->Prop}{w0:World}{R:Act->World->Prop}{ss:List (Nat × aE)}{o:Oper}{rest:List Oper}{a:Act}{hs:List (Nat × aE)}{d:Nat}
theorem dJ (hg:kV ops o a hs) (hd:o.dst=some d) (hz:Nat.blt d a.tmps.size=true) (hr:wpX r P ops Q w0 R ss rest (a.put (some d) undef) hs):wpX r P ops Q w0 R ss (o::rest) a hs :=
 .inl ⟨d,fun u _=>u=undef,hd,cG hz,r.stable_eq _,fun a' w he hsl=>uW hg hsl ⟨undef,rfl,r.dxe (Below.refl _ _),rfl⟩,.inl ⟨undef,rfl,hr⟩⟩
theorem iS (hg:dT ops o a hs) (hd:o.dst=some d) (hz:Nat.blt d a.tmps.size=true) (hp:gW o=true) (hsel:aV o=true) (hn:fK o hs=true)
 (h:∀ K:Act->Prop,(∀ a,wpX r P ops Q w0 R ss rest a hs->K a)->o.quiet P a (fun w'=>∃ m:r.Lt w0,w'=m.1) K):wpX r P ops Q w0 R ss (o::rest) a hs:=by
 obtain ⟨v,h1,h2⟩:=h _ (fun _ h=>h)
 rw [hd] at h2
 refine .inl ⟨d,fun u _=>u=v,hd,cG hz,r.stable_eq v,fun a' w he hsl=>?_,.inl ⟨v,rfl,h2⟩⟩
 refine kJ hg hsl fun hsl=>?_
 have h3:=h1 w ⟨⟨w,he⟩,rfl⟩
 have h4:execOp a'.eval o=execOp a.eval o:=fJ (dB hsel) (iG hn hsl)
 unfold Oper.quietAt at h3
 unfold Oper.wp
 rw [h4]
 have hne:=fun w' f args=>jD (P:=P) (ρ:=a.eval) (o:=o) hp (w:=w) (w':=w') (f:=f) (args:=args)
 generalize (execOp a.eval o).run P w=r at *
 cases r with
 | ok n w' =>
   cases n <;> simp only [Oper.quietUpon] at h3 <;> simp only [Oper.upon]
   case value u=>obtain ⟨e1,e2⟩:=h3;exact ⟨u,rfl,by rw [e1];exact r.dxe (Below.refl _ _),e2⟩
   case skip=>obtain ⟨e1,e2⟩:=h3;exact ⟨undef,rfl,by rw [e1];exact r.dxe (Below.refl _ _),e2.symm⟩
   case enter f args=>exact absurd rfl (hne w' f args)
 | halt x w'=>simp only [Oper.quietUpon] at h3
def UL (ops:Array Oper) (o:Oper) (a:Act) (hs:List (Nat × aE)):Bool:=gB ops o a hs && ((match o.dst with | some d=>Nat.blt d a.tmps.size | none=>false) && (gW o && (aV o && fK o hs)))
theorem aC (hb:UL ops o a hs=true) (h:∀ K:Act->Prop,(∀ a,wpX r P ops Q w0 R ss rest a hs->K a)->o.quiet P a (fun w'=>∃ m:r.Lt w0,w'=m.1) K):wpX r P ops Q w0 R ss (o::rest) a hs:=by
 unfold UL at hb
 simp only [Bool.and_eq_true] at hb
 obtain ⟨h1,h2,h3,h4,h5⟩:=hb
 split at h2
 · rename_i d hd;exact iS (gR h1) hd h2 h3 h4 h5 h
 · cases h2
theorem iT (hg:dT ops o a hs) (g:aE) (hst:r.stable g) (hd:o.dst=some d) (hz:Nat.blt d a.tmps.size=true) (hsel:aV o=true) (hn:fK o hs=true)
 (h:∀ (m:r.Lt w0) (K:Act->World->Prop),(∀ a'' w'',a''.defers=a.defers->(r.dx m.1 w''/\g (a''.eval (.tmp d)) w'')->K a'' w'')->o.wp P a m.1 K (fun _ _ _=>False))
 (hr:wpX r P ops Q w0 R ss rest (a.put (some d) undef) ((d,g)::hs)):wpX r P ops Q w0 R ss (o::rest) a hs :=
 .inl ⟨d,g,hd,cG hz,hst,fun a' w he hsl=>kJ hg hsl fun hsl=>Oper.wp_mono (fun a'' w'' ⟨v,h1,h2⟩=>⟨v,h1,h2⟩) (fP (G:=fun v w''=>r.dx w w''/\g v w'') (fJ (dB hsel) (iG hn hsl)) hd (cG hz) (h ⟨w,he⟩)),.inr hr⟩
theorem gF (hg:dT ops o a hs) (v:Value) (hd:o.dst=some d) (hz:Nat.blt d a.tmps.size=true) (hsel:aV o=true) (hn:fK o hs=true)
 (h:∀ (m:r.Lt w0) (K:Act->World->Prop),(∀ a'' w'',a''.defers=a.defers->(r.dx m.1 w''/\a''.eval (.tmp d)=v)->K a'' w'')->o.wp P a m.1 K (fun _ _ _=>False))
 (hr:wpX r P ops Q w0 R ss rest (a.put (some d) v) hs):wpX r P ops Q w0 R ss (o::rest) a hs :=
 .inl ⟨d,fun u _=>u=v,hd,cG hz,r.stable_eq v,fun a' w he hsl=>kJ hg hsl fun hsl=>Oper.wp_mono (fun a'' w'' ⟨v,h1,h2⟩=>⟨v,h1,h2⟩) (fP (G:=fun u w''=>r.dx w w''/\u=v) (fJ (dB hsel) (iG hn hsl)) hd (cG hz) (h ⟨w,he⟩)),.inl ⟨v,rfl,hr⟩⟩
theorem AD (hg:dT ops o a hs) (t1:Nat) (p:aE) (v:Value) (hd:o.dst=some d) (hz:Nat.blt d a.tmps.size=true) (hsel:aV o=true) (hl:hs.lookup t1=some p) (hn:pV o hs t1=true) (hin:(bG o).contains t1=true) (hz1:Nat.blt t1 a.tmps.size=true)
 (h:∀ (m:r.Lt w0) (u:Value),p u m.1->∀ (K:Act->World->Prop),(∀ a'' w'',a''.defers=a.defers->(r.dx m.1 w''/\a''.eval (.tmp d)=v)->K a'' w'')->o.wp P (a.put (some t1) u) m.1 K (fun _ _ _=>False))
 (hr:wpX r P ops Q w0 R ss rest (a.put (some d) v) hs):wpX r P ops Q w0 R ss (o::rest) a hs :=
 .inl ⟨d,fun u _=>u=v,hd,cG hz,r.stable_eq v,fun a' w he hsl=>kJ hg hsl fun hsl=>by
  obtain ⟨h1,h2⟩:=yN hn (by simpa using hin) (cG hz1) hl hsl
  exact Oper.wp_mono (fun a'' w'' ⟨v,h1,h2⟩=>⟨v,h1,h2⟩) (fP (G:=fun u w''=>r.dx w w''/\u=v) (fJ (dB hsel) h2) hd (by simpa [Act.put] using cG hz) (h ⟨w,he⟩ _ h1)),.inl ⟨v,rfl,hr⟩⟩
theorem bN (hg:dT ops o a hs) (v:Value) {f:FuncId}{x:Operand}{xs:Array Operand}{ats:Array TypeId}{args:List Value}
 (hd:o.dst=some d) (hz:Nat.blt d a.tmps.size=true) (ho:o.op=.call { callee:=.value x,args:=xs,argTypes:=ats }) (hx:a.eval x=.func (.func f) #[] #[]) (hf:gV P f=true) (ha:xs.toList.map a.eval=args) (hn:fK o hs=true)
 (h:∀ m:r.Lt w0,Calls P f args.toArray m.1 fun e w''=>e=.returned v/\r.dx m.1 w'') (hr:wpX r P ops Q w0 R ss rest (a.put (some d) v) hs):wpX r P ops Q w0 R ss (o::rest) a hs :=
 gF hg v hd hz (by unfold aV;rw [ho]) hn (fun m K hK=>iH (G:=fun u w''=>u=v/\r.dx m.1 w'') ho hx hf ha ((h m).mono fun e w'' ⟨h1,h2⟩=>⟨v,h1,rfl,h2⟩) (fun u w'' ⟨h1,h2⟩=>hK _ _ (by rw [hd];rfl) ⟨h2,by rw [hd,aW (cG hz)];exact h1⟩)) hr
theorem cA (hg:dT ops o a hs) (g:aE) (hst:r.stable g) {f:FuncId}{x:Operand}{xs:Array Operand}{ats:Array TypeId}{args:List Value}
 (hd:o.dst=some d) (hz:Nat.blt d a.tmps.size=true) (ho:o.op=.call { callee:=.value x,args:=xs,argTypes:=ats }) (hx:a.eval x=.func (.func f) #[] #[]) (hf:gV P f=true) (ha:xs.toList.map a.eval=args) (hn:fK o hs=true)
 (h:∀ m:r.Lt w0,Calls P f args.toArray m.1 fun e w''=>∃ v,e=.returned v/\r.dx m.1 w''/\g v w'') (hr:wpX r P ops Q w0 R ss rest (a.put (some d) undef) ((d,g)::hs)):wpX r P ops Q w0 R ss (o::rest) a hs :=
 iT hg g hst hd hz (by unfold aV;rw [ho]) hn (fun m K hK=>iH (G:=fun u w''=>r.dx m.1 w''/\g u w'') ho hx hf ha (h m) (fun u w'' h2=>hK _ _ (by rw [hd];rfl) ⟨h2.1,by rw [hd,aW (cG hz)];exact h2.2⟩)) hr
theorem LE:type_of% @cA:=@cA
theorem fC (hg:dT ops o a hs) (t1:Nat) (p:aE) (v:Value) {f:FuncId}{x:Operand}{xs:Array Operand}{ats:Array TypeId} (args:Value->List Value)
 (hd:o.dst=some d) (hz:Nat.blt d a.tmps.size=true) (ho:o.op=.call { callee:=.value x,args:=xs,argTypes:=ats }) (hl:hs.lookup t1=some p) (hn:pV o hs t1=true) (hin:(bG o).contains t1=true) (hz1:Nat.blt t1 a.tmps.size=true)
 (hx:∀ u,(a.put (some t1) u).eval x=.func (.func f) #[] #[]) (hf:gV P f=true) (ha:∀ u,xs.toList.map (a.put (some t1) u).eval=args u)
 (h:∀ (m:r.Lt w0) (u:Value),p u m.1->Calls P f (args u).toArray m.1 fun e w''=>e=.returned v/\r.dx m.1 w'') (hr:wpX r P ops Q w0 R ss rest (a.put (some d) v) hs):wpX r P ops Q w0 R ss (o::rest) a hs :=
 AD hg t1 p v hd hz (by unfold aV;rw [ho]) hl hn hin hz1 (fun m u hu K hK=>iH (G:=fun u w''=>u=v/\r.dx m.1 w'') ho (hx u) hf (ha u) ((h m u hu).mono fun e w'' ⟨h1,h2⟩=>⟨v,h1,rfl,h2⟩)
  (fun u' w'' ⟨h1,h2⟩=>hK _ _ (by rw [hd];rfl) ⟨h2,by rw [hd,aW (by simpa [Act.put] using cG hz)];exact h1⟩)) hr
theorem cH {a:Act}{hs:List (Nat × aE)} (h:∀ (m:r.Lt w0) (f:Nat->Value),(∀ t p,hs.lookup t=some p->p (f t) m.1)->(∀ q ∈ ss,q.2 ((bO a hs f).eval (.tmp q.1)) m.1)->R (bO a hs f) m.1):wpX r P ops Q w0 R ss [] a hs:=fun a' w he hd hz hsl hss=>by
 have:a'=bO a hs (fun t=>a'.eval (.tmp t)):=by
  have k1:=fE a (fun t=>a'.eval (.tmp t)) hs
  have k2:=eL a (fun t=>a'.eval (.tmp t)) hs
  have k3:=mJ a (fun t=>a'.eval (.tmp t)) hs
  generalize bO a hs (fun t=>a'.eval (.tmp t))=b at *
  obtain ⟨t,d⟩:=a
  obtain ⟨t',d'⟩:=a'
  obtain ⟨tb,db⟩:=b
  simp only at hd hz k1 k2 k3
  subst hd k2
  congr 1
  apply Array.ext (by omega)
  intro i g1 g2
  have q:=hsl i
  rw [k3 i g2 (by omega)]
  cases hl:hs.lookup i with
  | some p=>simp [Act.eval,g1]
  | none =>
    have g3:i<t.size:=by omega
    simp only [dA,hl] at q
    simpa [Act.eval,g1,g3] using q
 rw [this] at hss
 rw [this]
 refine h ⟨w,he⟩ _ (fun t p hl=>?_) hss
 have:=hsl t
 simpa only [dA,hl] using this
theorem NP {a:Act} (h:∀ m:r.Lt w0,R a m.1):wpX r P ops Q w0 R ss [] a []:=cH fun m _ _ _=>h m
theorem pE {a:Act}{hs:List (Nat × aE)} (h:∀ (m:r.Lt w0) (f:Nat->Value),(∀ t p,hs.lookup t=some p->p (f t) m.1)->R (bO a hs f) m.1):wpX r P ops Q w0 R ss [] a hs:=cH fun m f hf _=>h m f hf
theorem jO {a:Act}{t1:Nat}{p1:aE} (h:∀ (m:r.Lt w0) (u:Value),p1 u m.1->R (a.put (some t1) u) m.1):wpX r P ops Q w0 R ss [] a [(t1,p1)]:=pE fun m f hf=>h m (f t1) (hf t1 p1 (by simp))
theorem mI {a:Act}{t1 t2:Nat}{p1 p2:aE} (h12:t1≠t2) (h:∀ (m:r.Lt w0) (u1 u2:Value),p1 u1 m.1->p2 u2 m.1->R ((a.put (some t1) u1).put (some t2) u2) m.1):wpX r P ops Q w0 R ss [] a [(t2,p2),(t1,p1)] :=
 pE fun m f hf=>h m (f t1) (f t2) (hf t1 p1 (by simp [List.lookup_cons,beq_false_of_ne h12])) (hf t2 p2 (by simp))
theorem mK {a:Act}{t1 t2 t3:Nat}{p1 p2 p3:aE} (h12:t1≠t2) (h13:t1≠t3) (h23:t2≠t3) (h:∀ (m:r.Lt w0) (u1 u2 u3:Value),p1 u1 m.1->p2 u2 m.1->p3 u3 m.1->R (((a.put (some t1) u1).put (some t2) u2).put (some t3) u3) m.1):wpX r P ops Q w0 R ss [] a [(t3,p3),(t2,p2),(t1,p1)] :=
 pE fun m f hf=>h m (f t1) (f t2) (f t3) (hf t1 p1 (by simp [List.lookup_cons,beq_false_of_ne h12,beq_false_of_ne h13])) (hf t2 p2 (by simp [List.lookup_cons,beq_false_of_ne h23])) (hf t3 p3 (by simp))
theorem JQ (b:Act) (t:Nat) (h:t<b.tmps.size):b.eval (.tmp t)=b.tmps[t]:=by simp [Act.eval,h]
theorem uX {o:Oper}{a a':Act}{hs:List (Nat × aE)}{w:World} (hz:a'.tmps.size=a.tmps.size \/ True) (hin:(bG o).all (fun t=>Nat.blt t a.tmps.size)=true) (h:∀ t ∈ bG o,dA a hs t (a'.eval (.tmp t)) w) :
 ∀ t ∈ bG o,a'.eval (.tmp t)=(bO a hs (fun t=>a'.eval (.tmp t))).eval (.tmp t):=fun t ht=>by
 have h1:=h t ht
 have h2:t<a.tmps.size:=cG (List.all_eq_true.1 hin t ht)
 have h3:t<(bO a hs (fun t=>a'.eval (.tmp t))).tmps.size:=by rw [fE];exact h2
 have h4:=mJ a (fun t=>a'.eval (.tmp t)) hs t h3 h2
 rw [JQ _ t h3,h4]
 unfold dA at h1
 cases hl:hs.lookup t with
 | some p=>rfl
 | none =>
   rw [hl] at h1
   simp only [Option.isSome_none,Bool.false_eq_true,if_false]
   rw [h1,JQ _ t h2]
theorem jP (hg:dT ops o a hs) (g:aE) (hst:r.stable g) (hd:o.dst=some d) (hz:Nat.blt d a.tmps.size=true) (hsel:aV o=true) (hin:(bG o).all (fun t=>Nat.blt t a.tmps.size)=true)
 (h:∀ (m:r.Lt w0) (f:Nat->Value),(∀ t p,hs.lookup t=some p->(bG o).contains t=true->p (f t) m.1)->∀ (K:Act->World->Prop),(∀ a'' w'',a''.defers=a.defers->(r.dx m.1 w''/\g (a''.eval (.tmp d)) w'')->K a'' w'')->o.wp P (bO a hs f) m.1 K (fun _ _ _=>False))
 (hr:wpX r P ops Q w0 R ss rest (a.put (some d) undef) ((d,g)::hs)):wpX r P ops Q w0 R ss (o::rest) a hs :=
 .inl ⟨d,g,hd,cG hz,hst,fun a' w he hsl=>kJ hg hsl fun hsl=>by
  refine Oper.wp_mono (fun a'' w'' ⟨v,h1,h2⟩=>⟨v,h1,h2⟩) (fP (G:=fun v w''=>r.dx w w''/\g v w'') (fJ (dB hsel) (uX (.inr trivial) hin hsl)) hd (by rw [fE];exact cG hz) (fun K hK=>h ⟨w,he⟩ (fun t=>a'.eval (.tmp t)) (fun t p hl hc=>?_) K (fun a'' w'' hd'=>hK a'' w'' (by rw [eL];exact hd'))))
  have:=hsl t (by simpa using hc)
  unfold dA at this
  rw [hl] at this
  exact this,.inr hr⟩
theorem kW (hg:dT ops o a hs) (g:aE) (hst:r.stable g) {fn:FuncId}{x:Operand}{xs:Array Operand}{ats:Array TypeId} (args:(Nat->Value)->List Value)
 (hd:o.dst=some d) (hz:Nat.blt d a.tmps.size=true) (ho:o.op=.call { callee:=.value x,args:=xs,argTypes:=ats }) (hin:(bG o).all (fun t=>Nat.blt t a.tmps.size)=true)
 (hx:∀ f,(bO a hs f).eval x=.func (.func fn) #[] #[]) (hf:gV P fn=true) (ha:∀ f,xs.toList.map (bO a hs f).eval=args f)
 (h:∀ (m:r.Lt w0) (f:Nat->Value),(∀ t p,hs.lookup t=some p->(bG o).contains t=true->p (f t) m.1)->Calls P fn (args f).toArray m.1 fun e w''=>∃ v,e=.returned v/\r.dx m.1 w''/\g v w'')
 (hr:wpX r P ops Q w0 R ss rest (a.put (some d) undef) ((d,g)::hs)):wpX r P ops Q w0 R ss (o::rest) a hs :=
 jP hg g hst hd hz (by unfold aV;rw [ho]) hin (fun m f hu K hK=>iH (G:=fun u w''=>r.dx m.1 w''/\g u w'') ho (hx f) hf (ha f) (h m f hu)
  (fun u' w'' h2=>hK _ _ (by rw [hd];show ((bO a hs f).put (some d) u').defers=_;simp [Act.put,eL]) ⟨h2.1,by rw [hd,aW (by rw [fE];exact cG hz)];exact h2.2⟩)) hr
end
section
variable {r:Rl}{P:Program}{ops:Array Oper}{Q:Exit->Act->World->Prop}{w0:World}{R:Act->World->Prop}{ss:List (Nat × aE)}{o:Oper}{rest:List Oper}{a:Act}{hs:List (Nat × aE)}{d:Nat}
theorem dY {a:Act}{hs:List (Nat × aE)}{f:Nat->Value}{x:Operand} (h:lW a x=true):(bO a hs f).eval x=evF a hs f x:=NM (fE a f hs) (mJ a f hs) h
theorem gG {a:Act}{hs:List (Nat × aE)} (f:Nat->Value) (n:Nat) (h:Nat.blt n a.tmps.size=true):n<(bO a hs f).tmps.size:=by rw [fE];exact cG h
theorem eZ (hg:dT ops o a hs) (g:aE) (hst:r.stable g) (s:(Nat->Value)->Sem Value)
 (hd:o.dst=some d) (hz:Nat.blt d a.tmps.size=true) (hsel:aV o=true) (hin:(bG o).all (fun t=>Nat.blt t a.tmps.size)=true) (he:∀ f,execOp (bO a hs f).eval o=(do pure (Next.value (<- s f))))
 (h:∀ (m:r.Lt w0) (f:Nat->Value),(∀ t p,hs.lookup t=some p->(bG o).contains t=true->p (f t) m.1)->∃ v w'',(s f).run P m.1=.ok v w''/\r.dx m.1 w''/\g v w'')
 (hr:wpX r P ops Q w0 R ss rest (a.put (some d) undef) ((d,g)::hs)):wpX r P ops Q w0 R ss (o::rest) a hs :=
 jP hg g hst hd hz hsel hin (fun m f hf K hK=>by
  obtain ⟨v,w'',h1,h2,h3⟩:=h m f hf
  exact rP (he f) h1 (hK _ _ (by rw [hd];show ((bO a hs f).put (some d) v).defers=_;simp [Act.put,eL]) ⟨h2,by rw [hd,aW (gG f d hz)];exact h3⟩)) hr
theorem bD (hg:dT ops o a hs) (g:aE) (hst:r.stable g) {t:TypeId}{n:Nat}{ps:Array (Nat × Operand)} (vs:(Nat->Value)->List (Nat × Value))
 (hd:o.dst=some d) (hz:Nat.blt d a.tmps.size=true) (ho:o.op=.buildSlice t n ps) (hin:(bG o).all (fun t=>Nat.blt t a.tmps.size)=true) (hq:(ps.toList.all fun q=>lW a q.2)=true) (ha:∀ f,(ps.toList.map fun q=>(q.1,evF a hs f q.2))=vs f)
 (h:∀ (m:r.Lt w0) (f:Nat->Value),(∀ t p,hs.lookup t=some p->(bG o).contains t=true->p (f t) m.1)->∃ v w'',(Instr.buildSlice t n (vs f).toArray).run P m.1=.ok v w''/\r.dx m.1 w''/\g v w'')
 (hr:wpX r P ops Q w0 R ss rest (a.put (some d) undef) ((d,g)::hs)):wpX r P ops Q w0 R ss (o::rest) a hs :=
 eZ hg g hst (fun f=>Instr.buildSlice t n (vs f).toArray) hd hz (by unfold aV;rw [ho]) hin (fun f=>by unfold execOp;simp only [ho];rw [<- ha f,List.map_congr_left (fun q hm=>by rw [<- dY (List.all_eq_true.1 hq q hm)]),<- List.map_toArray,Array.toArray_toList]) h hr
theorem bW (hg:dT ops o a hs) (g:aE) (hst:r.stable g) {t:TypeId}{ps:Array (Nat × Operand)} (vs:(Nat->Value)->List (Nat × Value))
 (hd:o.dst=some d) (hz:Nat.blt d a.tmps.size=true) (ho:o.op=.build t ps) (hin:(bG o).all (fun t=>Nat.blt t a.tmps.size)=true) (hq:(ps.toList.all fun q=>lW a q.2)=true) (ha:∀ f,(ps.toList.map fun q=>(q.1,evF a hs f q.2))=vs f)
 (h:∀ (m:r.Lt w0) (f:Nat->Value),(∀ t p,hs.lookup t=some p->(bG o).contains t=true->p (f t) m.1)->∃ v w'',(Instr.build t (vs f).toArray).run P m.1=.ok v w''/\r.dx m.1 w''/\g v w'')
 (hr:wpX r P ops Q w0 R ss rest (a.put (some d) undef) ((d,g)::hs)):wpX r P ops Q w0 R ss (o::rest) a hs :=
 eZ hg g hst (fun f=>Instr.build t (vs f).toArray) hd hz (by unfold aV;rw [ho]) hin (fun f=>by unfold execOp;simp only [ho];rw [<- ha f,List.map_congr_left (fun q hm=>by rw [<- dY (List.all_eq_true.1 hq q hm)]),<- List.map_toArray,Array.toArray_toList]) h hr
theorem jK (hg:dT ops o a hs) (g:aE) (hst:r.stable g) {t1 t2:TypeId}{x:Operand} (xv:(Nat->Value)->Value)
 (hd:o.dst=some d) (hz:Nat.blt d a.tmps.size=true) (ho:o.op=.convert t1 t2 x) (hin:(bG o).all (fun t=>Nat.blt t a.tmps.size)=true) (hq:lW a x=true) (ha:∀ f,evF a hs f x=xv f)
 (h:∀ (m:r.Lt w0) (f:Nat->Value),(∀ t p,hs.lookup t=some p->(bG o).contains t=true->p (f t) m.1)->∃ v w'',(convert t1 t2 (xv f)).run P m.1=.ok v w''/\r.dx m.1 w''/\g v w'')
 (hr:wpX r P ops Q w0 R ss rest (a.put (some d) undef) ((d,g)::hs)):wpX r P ops Q w0 R ss (o::rest) a hs :=
 eZ hg g hst (fun f=>convert t1 t2 (xv f)) hd hz (by unfold aV;rw [ho]) hin (fun f=>by unfold execOp;simp only [ho];rw [dY hq,ha f]) h hr
theorem aR (hg:dT ops o a hs) (g:aE) (hst:r.stable g) {fn:FuncId}{x:Operand}{xs:Array Operand}{ats:Array TypeId} (args:(Nat->Value)->List Value)
 (hd:o.dst=some d) (hz:Nat.blt d a.tmps.size=true) (ho:o.op=.call { callee:=.value x,args:=xs,argTypes:=ats }) (hin:(bG o).all (fun t=>Nat.blt t a.tmps.size)=true)
 (hqx:x=.func fn) (hf:gV P fn=true) (hq:(xs.toList.all fun q=>lW a q)=true) (ha:∀ f,xs.toList.map (evF a hs f)=args f)
 (h:∀ (m:r.Lt w0) (f:Nat->Value),(∀ t p,hs.lookup t=some p->(bG o).contains t=true->p (f t) m.1)->Calls P fn (args f).toArray m.1 fun e w''=>∃ v,e=.returned v/\r.dx m.1 w''/\g v w'')
 (hr:wpX r P ops Q w0 R ss rest (a.put (some d) undef) ((d,g)::hs)):wpX r P ops Q w0 R ss (o::rest) a hs :=
 kW hg g hst args hd hz ho hin (fun f=>by rw [hqx];rfl) hf (fun f=>by rw [<- ha f];exact List.map_congr_left (fun q hm=>dY (List.all_eq_true.1 hq q hm))) h hr
theorem dL (hg:dT ops o a hs) (g:aE) (hst:r.stable g) {x:Operand}{ix:Nat} (xv:(Nat->Value)->Value)
 (hd:o.dst=some d) (hz:Nat.blt d a.tmps.size=true) (ho:o.op=.extract x ix) (hin:(bG o).all (fun t=>Nat.blt t a.tmps.size)=true) (hq:lW a x=true) (ha:∀ f,evF a hs f x=xv f)
 (h:∀ (m:r.Lt w0) (f:Nat->Value),(∀ t p,hs.lookup t=some p->(bG o).contains t=true->p (f t) m.1)->∃ v w'',(Instr.extract (xv f) ix).run P m.1=.ok v w''/\r.dx m.1 w''/\g v w'')
 (hr:wpX r P ops Q w0 R ss rest (a.put (some d) undef) ((d,g)::hs)):wpX r P ops Q w0 R ss (o::rest) a hs :=
 eZ hg g hst (fun f=>Instr.extract (xv f) ix) hd hz (by unfold aV;rw [ho]) hin (fun f=>by unfold execOp;simp only [ho];rw [dY hq,ha f]) h hr
end
section
variable {r:Rl}{P:Program}{ops:Array Oper}{Q:Exit->Act->World->Prop}{w0:World}{R:Act->World->Prop}{ss:List (Nat × aE)}{o:Oper}{rest:List Oper}{a:Act}{hs:List (Nat × aE)}{d:Nat}
theorem f9 (hg:dT ops o a hs) (g:aE) (hst:r.stable g) {t:TypeId}{s x:Operand} (sv xv:(Nat->Value)->Value)
 (hd:o.dst=some d) (hz:Nat.blt d a.tmps.size=true) (ho:o.op=.call { callee:=.builtin .append,args:=#[s,x],argTypes:=#[t,t] }) (hin:(bG o).all (fun t=>Nat.blt t a.tmps.size)=true) (hqs:lW a s=true) (hqx:lW a x=true)
 (hs':∀ f,evF a hs f s=sv f) (hx':∀ f,evF a hs f x=xv f)
 (h:∀ (m:r.Lt w0) (f:Nat->Value),(∀ t p,hs.lookup t=some p->(bG o).contains t=true->p (f t) m.1)->∃ v w'',(Builtin.append_ #[t,t] o.type #[sv f,xv f]).run P m.1=.ok v w''/\r.dx m.1 w''/\g v w'')
 (hr:wpX r P ops Q w0 R ss rest (a.put (some d) undef) ((d,g)::hs)):wpX r P ops Q w0 R ss (o::rest) a hs :=
 jP hg g hst hd hz (by unfold aV;rw [ho]) hin (fun m f hf K hK=>by
  obtain ⟨v,w'',h1,h2,h3⟩:=h m f hf
  have e1:(bO a hs f).eval s=sv f:=(dY hqs).trans (hs' f)
  have e2:(bO a hs f).eval x=xv f:=(dY hqx).trans (hx' f)
  unfold Oper.wp execOp
  simp only [ho,resolve,invoke,builtin,Sem.run_bind,Sem.run_pure,Result.andThen_ok,List.map_toArray,List.map_cons,List.map_nil,e1,e2,h1]
  refine hK _ _ (by rw [hd];show ((bO a hs f).put (some d) v).defers=_;simp [Act.put,eL]) ⟨h2,by rw [hd,aW (gG f d hz)];exact h3⟩) hr
theorem dZ (hg:dT ops o a hs) (ad:Addr) {x:Operand} (hd:o.dst=some d) (hz:Nat.blt d a.tmps.size=true) (ho:o.op=.nilCheck x) (hx:a.eval x=.pointer (some ad)) (hn:fK o hs=true)
 (hr:wpX r P ops Q w0 R ss rest (a.put (some d) (.pointer (some ad))) hs):wpX r P ops Q w0 R ss (o::rest) a hs :=
 gF hg (.pointer (some ad)) hd hz (by unfold aV;rw [ho]) hn (fun m K hK=>by
  unfold Oper.wp execOp
  simp only [ho,hx,Sem.run_pure,Oper.upon]
  exact hK _ _ (by rw [hd];rfl) ⟨r.dxe (Below.refl _ _),by rw [hd,aW (cG hz)]⟩) hr
theorem yO (hg:dT ops o a hs) (g:aE) (hst:r.stable g) {x:Operand} (xv:(Nat->Value)->Value)
 (hd:o.dst=some d) (hz:Nat.blt d a.tmps.size=true) (ho:o.op=.move x) (hin:(bG o).all (fun t=>Nat.blt t a.tmps.size)=true) (hq:lW a x=true) (ha:∀ f,evF a hs f x=xv f)
 (h:∀ (m:r.Lt w0) (f:Nat->Value),(∀ t p,hs.lookup t=some p->(bG o).contains t=true->p (f t) m.1)->g (xv f) m.1)
 (hr:wpX r P ops Q w0 R ss rest (a.put (some d) undef) ((d,g)::hs)):wpX r P ops Q w0 R ss (o::rest) a hs :=
 eZ hg g hst (fun f=>pure (xv f)) hd hz (by unfold aV;rw [ho]) hin (fun f=>by unfold execOp;simp only [ho];rw [dY hq,ha f];rfl) (fun m f hf=>⟨_,_,rfl,r.dxe (Below.refl _ _),h m f hf⟩) hr
theorem jQ (hg:dT ops o a hs) (g:aE) (hst:r.stable g) {x:Operand} (xv:(Nat->Value)->Value)
 (hd:o.dst=some d) (hz:Nat.blt d a.tmps.size=true) (ho:o.op=.assign x) (hin:(bG o).all (fun t=>Nat.blt t a.tmps.size)=true) (hq:lW a x=true) (ha:∀ f,evF a hs f x=xv f)
 (h:∀ (m:r.Lt w0) (f:Nat->Value),(∀ t p,hs.lookup t=some p->(bG o).contains t=true->p (f t) m.1)->g (xv f) m.1)
 (hr:wpX r P ops Q w0 R ss rest (a.put (some d) undef) ((d,g)::hs)):wpX r P ops Q w0 R ss (o::rest) a hs :=
 eZ hg g hst (fun f=>pure (xv f)) hd hz (by unfold aV;rw [ho]) hin (fun f=>by unfold execOp;simp only [ho];rw [dY hq,ha f];rfl) (fun m f hf=>⟨_,_,rfl,r.dxe (Below.refl _ _),h m f hf⟩) hr
theorem dP {o:Oper}{rest:List Oper}{a:Act}{hs:List (Nat × aE)} (hg:dT ops o a hs) (q:aE) {t:TypeId}{p:Nat}{x:Operand} (pv:(Nat->Value)->Value) (xv:(Nat->Value)->Value)
 (hd:o.dst=none) (ho:o.op=.store t (.tmp p) x) (hin:(bG o).all (fun t=>Nat.blt t a.tmps.size)=true) (hp:lW a (.tmp p)=true) (hx:lW a x=true) (hpv:∀ f,evF a hs f (.tmp p)=pv f) (hxv:∀ f,evF a hs f x=xv f)
 (hq:∀ v w w',r.dx w w'->q v w->q v w') (hq2:∀ T,T≠t->∀ v w w',r.st T w w'->q v w->q v w')
 (h:∀ (m:r.Lt w0) (f:Nat->Value),(∀ t p,hs.lookup t=some p->(bG o).contains t=true->p (f t) m.1)->∃ w'',(Instr.storeAt t (pv f) (xv f)).run P m.1=.ok () w''/\r.st t m.1 w''/\q (pv f) w'')
 (hr:wpX r P ops Q w0 R ((p,q)::ss) rest a hs):wpX r P ops Q w0 R ss (o::rest) a hs:=by
 have hT:opT o=t:=by unfold opT;rw [ho]
 have hP:opP o=p:=by unfold opP;rw [ho]
 refine .inr ⟨q,hd,hq,by rw [hT];exact hq2,fun a' w he hsl=>kJ hg hsl fun hsl=>?_,by rw [hP];exact hr⟩
 have hsf:=uX (.inr trivial) hin hsl
 have hex:execOp a'.eval o=execOp (bO a hs (fun t=>a'.eval (.tmp t))).eval o:=fJ (by rw [ho];exact fun cs b=>by intro q;cases q) hsf
 have hptr:a'.eval (.tmp p)=pv (fun t=>a'.eval (.tmp t)):=by
  rw [<- hpv,<- dY hp]
  exact hsf p (by unfold bG;rw [ho];simp [Op.operands])
 obtain ⟨w'',h1,h2,h3⟩:=h ⟨w,he⟩ (fun t=>a'.eval (.tmp t)) (fun t p hl hc=>by
  have:=hsl t (by simpa using hc)
  unfold dA at this
  rw [hl] at this
  exact this)
 unfold Oper.wp
 rw [hex]
 unfold execOp
 simp only [ho]
 rw [dY hp,dY hx,hpv,hxv]
 simp only [Sem.run_bind,h1]
 exact ⟨undef,rfl,by rw [hT];exact h2,by rw [hP,hptr];exact h3⟩
end
end Go.Proofs.YtkjplpmogfmhkaaGreatDoor.Gt
namespace Go.Proofs.YtkjplpmogfmhkaaGreatDoor.Gd
open Go Go.RowKit Go.Proofs.YtkjplpmogfmhkaaGreatDoor
set_option linter.unusedVariables false
abbrev exR:Gt.Rl:=⟨Ext,fun _ _ _=>False,fun _=>Below.refl _ _,fun h k=>h.tr k,id,False.elim,Ext,id,id⟩
section
variable {P:Program}{ops:Array Oper}{Q:Exit->Act->World->Prop}{w0:World}{R:Act->World->Prop}
theorem aI {id:Nat}{a:Act}{w:World}{l:List Oper} (n:Nat) (hm:P.follows .mixedOrders=true) (hB:(Gt.gU l.toArray n && iN l.toArray n)=true)
 (h:∀ w1,Ext w w1->Gt.wpX exR P l.toArray Q w1 (fun a' w'=>wpList P l.toArray Q (l.drop n) a' w') [] (l.take n) a []):(Code.region id l.toArray true).wp P Q a w:=Gt.aI (r:=exR) n hm hB h
theorem dJ:type_of% (@Gt.dJ exR):=@Gt.dJ exR
theorem iT:type_of% (@Gt.iT exR):=@Gt.iT exR
theorem gF:type_of% (@Gt.gF exR):=@Gt.gF exR
theorem bN:type_of% (@Gt.bN exR):=@Gt.bN exR
theorem cA:type_of% (@Gt.cA exR):=@Gt.cA exR
theorem fC:type_of% (@Gt.fC exR):=@Gt.fC exR
theorem jO:type_of% (@Gt.jO exR):=@Gt.jO exR
theorem mI:type_of% (@Gt.mI exR):=@Gt.mI exR
theorem mK:type_of% (@Gt.mK exR):=@Gt.mK exR
theorem jP:type_of% (@Gt.jP exR):=@Gt.jP exR
theorem kW:type_of% (@Gt.kW exR):=@Gt.kW exR
theorem bD:type_of% (@Gt.bD exR):=@Gt.bD exR
theorem bW:type_of% (@Gt.bW exR):=@Gt.bW exR
theorem jK:type_of% (@Gt.jK exR):=@Gt.jK exR
theorem aR:type_of% (@Gt.aR exR):=@Gt.aR exR
theorem dL:type_of% (@Gt.dL exR):=@Gt.dL exR
theorem dZ:type_of% (@Gt.dZ exR):=@Gt.dZ exR
theorem jQ:type_of% (@Gt.jQ exR):=@Gt.jQ exR
theorem f9:type_of% (@Gt.f9 exR):=@Gt.f9 exR
theorem cQ:type_of% (@Gt.NP exR):=@Gt.NP exR
theorem cH:type_of% (@Gt.pE exR):=@Gt.pE exR
theorem mM:type_of% (@Gt.f9 exR):=@Gt.f9 exR
theorem aC {o:Oper}{rest:List Oper}{a:Act}{hs:List (Nat × aE)} (hb:Gt.UL ops o a hs=true) (h:∀ K:Act->Prop,(∀ a,Gt.wpX exR P ops Q w0 R [] rest a hs->K a)->o.quiet P a (fun w'=>∃ m:Lt w0,w'=m.1) K):Gt.wpX exR P ops Q w0 R [] (o::rest) a hs:=Gt.aC hb h
theorem dY {a:Act}{hs:List (Nat × aE)}{f:Nat->Value}{x:Operand} (h:lW a x=true):(bO a hs f).eval x=evF a hs f x:=Gt.dY h
theorem gG {a:Act}{hs:List (Nat × aE)} (f:Nat->Value) (n:Nat) (h:Nat.blt n a.tmps.size=true):n<(bO a hs f).tmps.size:=Gt.gG f n h
theorem jJ {o:Oper}{rest:List Oper}{a:Act}{hs:List (Nat × aE)}{d:Nat} (hg:dT ops o a hs) {t e:TypeId}{n:Nat}{ps:Array (Nat × Operand)}{vs:List (Nat × Value)} (B:Nat) {cs:Array Value} (hB:B<=w0.heap.size)
 (hrun:∀ W:World,(Instr.buildSlice t n vs.toArray).run P W=.ok (.slice (some ⟨W.heap.size,0,none⟩) n n) (W.alloc (.cells cs e)))
 (hd:o.dst=some d) (hz:Nat.blt d a.tmps.size=true) (ho:o.op=.buildSlice t n ps) (ha:(ps.toList.map fun p=>(p.1,a.eval p.2))=vs) (hn:fK o hs=true) (hcs:n=cs.size) (hm:Nat.ble n 4294967295=true)
 (hr:Gt.wpX exR P ops Q w0 R [] rest (a.put (some d) undef) ((d,fun v w=>Own w B e v cs.toList)::hs)):Gt.wpX exR P ops Q w0 R [] (o::rest) a hs :=
 iT hg _ (lV B e cs.toList) hd hz (by unfold aV;rw [ho]) hn (fun m K hK=>rP (s:=Instr.buildSlice t n vs.toArray) (by unfold execOp;simp only [ho];rw [<- ha,<- List.map_toArray,Array.toArray_toList]) (hrun m.1)
  (hK _ _ (by rw [hd];rfl) ⟨(Below.refl _ _).alloc (YF _) _,by rw [hd,aW (cG hz)];exact (Own.lit m.1 cs e n hcs (by have:=Nat.le_of_ble_eq_true hm;unfold maxLen;omega)).mono (YO hB m.2.size)⟩)) hr
end
end Go.Proofs.YtkjplpmogfmhkaaGreatDoor.Gd
namespace Go.Proofs.YtkjplpmogfmhkaaGreatDoor.Gr
open Go Go.RowKit Go.Proofs.YtkjplpmogfmhkaaGreatDoor
set_option linter.unusedVariables false
structure Rl where
 rel:World->World->Prop
 refl:∀ w,rel w w
 tr:∀ {a b c:World},rel a b->rel b c->rel a c
 ext:∀ {a b:World},Ext a b->rel a b
def Rl.up (r:Rl):Gt.Rl:=⟨r.rel,fun _ _ _=>False,r.refl,r.tr,r.ext,False.elim,r.rel,r.ext,id⟩
def Rl.stable (r:Rl) (g:aE):Prop:=∀ v w w',r.rel w w'->g v w->g v w'
theorem Rl.stable_eq (r:Rl) (v:Value):r.stable (fun u _=>u=v):=fun _ _ _ _ h=>h
abbrev Rl.Lt (r:Rl) (w:World):=r.up.Lt w
section
variable {P:Program}{Q:Exit->Act->World->Prop}{r:Rl}{ops:Array Oper}{w0:World}{R:Act->World->Prop}
theorem aC {o:Oper}{rest:List Oper}{a:Act}{hs:List (Nat × aE)} (hb:Gt.UL ops o a hs=true) (h:∀ K:Act->Prop,(∀ a,Gt.wpX r.up P ops Q w0 R [] rest a hs->K a)->o.quiet P a (fun w'=>∃ m:r.Lt w0,w'=m.1) K):Gt.wpX r.up P ops Q w0 R [] (o::rest) a hs:=Gt.aC hb h
theorem aI {id:Nat}{a:Act}{w:World}{l:List Oper} (n:Nat) (hm:P.follows .mixedOrders=true) (hB:(Gt.gU l.toArray n && iN l.toArray n)=true)
 (h:∀ w1,r.rel w w1->Gt.wpX r.up P l.toArray Q w1 (fun a' w'=>wpList P l.toArray Q (l.drop n) a' w') [] (l.take n) a []):(Code.region id l.toArray true).wp P Q a w:=Gt.aI (r:=r.up) n hm hB h
theorem uG {a:Act}{w:World}{l:List Oper} (n:Nat) (hB:(Gt.gU l.toArray n && iN l.toArray n)=true)
 (h:Gt.wpX r.up P l.toArray Q w (fun a' w'=>wpList P l.toArray Q (l.drop n) a' w') [] (l.take n) a []):wpAny P .any l.toArray Q l.toArray.size (Array.replicate l.toArray.size false) a w:=Gt.uG n hB h
end
theorem cA {r:Rl}:type_of% (@Gt.cA r.up):=@Gt.cA r.up
theorem bD {r:Rl}:type_of% (@Gt.bD r.up):=@Gt.bD r.up
theorem aR {r:Rl}:type_of% (@Gt.aR r.up):=@Gt.aR r.up
theorem dZ {r:Rl}:type_of% (@Gt.dZ r.up):=@Gt.dZ r.up
theorem f9 {r:Rl}:type_of% (@Gt.f9 r.up):=@Gt.f9 r.up
theorem cH {r:Rl}:type_of% (@Gt.pE r.up):=@Gt.pE r.up
end Go.Proofs.YtkjplpmogfmhkaaGreatDoor.Gr
