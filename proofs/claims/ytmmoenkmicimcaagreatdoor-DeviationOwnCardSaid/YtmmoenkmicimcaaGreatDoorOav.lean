import Derived.Test.YtmmoenkmicimcaaGreatDoorOas
import Derived.Deep.LoopGhost
import Derived.Lib.LazyBuf
namespace Go.Proofs.YtmmoenkmicimcaaGreatDoor
open Go.RowKit
set_option linter.unusedVariables false
set_option maxRecDepth 100000
theorem mV {w:World}{B:Nat}{e:TypeId}{k:Nat}{v:Value}{xs:List Value}(h:aK w B e k v xs):∀r,aQ v=some r->r<w.heap.size:=by
 obtain⟨A,n,c,rfl,q,⟨rfl,rfl⟩ | ⟨g,C,rfl,F,hg,_⟩⟩:=h;· intro k l;cases A<;>simp [aQ]at l
 · intro k l;cases c with | zero=>simp [aQ]at l | succ c=>have:=a9 hg;simp [aQ]at l;omega
section
variable {P:Program}{Q:Exit->Act->World->Prop}{w0:World}{R:Act->World->Prop}
end
def C3(W:World)(b:Nat)(l v1 v2:Value):Prop:=W.heap[b]?=some (.cells #[l,v1,v2] 94 (0,0))
theorem C3.cells {W:World}{b:Nat}{l v1 v2:Value}(h:C3 W b l v1 v2):W.cell? ⟨b,0,none⟩=some l/\W.cell? ⟨b,1,none⟩=some v1/\W.cell? ⟨b,2,none⟩=some v2/\W.frozen? ⟨b,0,none⟩=false/\W.frozen? ⟨b,1,none⟩=false/\W.frozen? ⟨b,2,none⟩=false:=by
 refine⟨?_,?_,?_,?_,?_,?_⟩;· rw [ae W b 0 _ _ _ h];rfl
 · rw [ae W b 1 _ _ _ h];rfl
 · rw [ae W b 2 _ _ _ h];rfl
 all_goals(unfold C3 at h;simp [World.frozen?,h])
theorem C3.gb {W l:World}{g b:Nat}{q v1 v2:Value}(h:C3 W b q v1 v2)(k:Gb g W l)(C:b≠g):C3 l b q v1 v2:=(k.block b (a9 h) (fun e=>C (by injection e))).trans h
theorem C3.new(W:World)(l v1 v2:Value):C3 (W.alloc (.cells #[l,v1,v2] 94)) W.heap.size l v1 v2:=aA W _
theorem C3.lt {W:World}{b:Nat}{l v1 v2:Value}(h:C3 W b l v1 v2):b<W.heap.size:=a9 h
theorem aP {W:World}{b i k:Nat}{v:Value}(h:k≠b):(W.setCell ⟨b,i,none⟩ v).heap[k]?=W.heap[k]?:=by simp [World.setCell,Array.getElem?_modify,Ne.symm h]
abbrev set3(W:World)(b:Nat)(l v1 v2:Value):World:=((W.setCell ⟨b,0,none⟩ l).setCell ⟨b,1,none⟩ v1).setCell ⟨b,2,none⟩ v2
theorem C3.set2 {W:World}{b:Nat}{l v1 v2:Value}(h:C3 W b l v1 v2)(u:Value):C3 (W.setCell ⟨b,2,none⟩ u) b l v1 u:=by unfold C3 at h⊢;simp only [World.setCell,Array.getElem?_modify,if_true,h,Option.map_some];rfl
theorem C3.set1 {W:World}{b:Nat}{l v1 v2:Value}(h:C3 W b l v1 v2)(u:Value):C3 (W.setCell ⟨b,1,none⟩ u) b l u v2:=by unfold C3 at h⊢;simp only [World.setCell,Array.getElem?_modify,if_true,h,Option.map_some];rfl
theorem C3.set0 {W:World}{b:Nat}{l v1 v2:Value}(h:C3 W b l v1 v2)(u:Value):C3 (W.setCell ⟨b,0,none⟩ u) b u v1 v2:=by unfold C3 at h⊢;simp only [World.setCell,Array.getElem?_modify,if_true,h,Option.map_some];rfl
theorem C3.set3 {W:World}{b:Nat}{l v1 v2:Value}(h:C3 W b l v1 v2)(u0 u1 u2:Value):C3 (set3 W b u0 u1 u2) b u0 u1 u2:=((h.set0 u0).set1 u1).set2 u2
theorem nW {W:World}{b k:Nat}{l v1 v2:Value}(h:k≠b):(set3 W b l v1 v2).heap[k]?=W.heap[k]?:=by unfold Go.Proofs.YtmmoenkmicimcaaGreatDoor.set3;rw [aP h,aP h,aP h]
end Go.Proofs.YtmmoenkmicimcaaGreatDoor
