import Derived.Test.YtmmoenkmicimcaaGreatDoorOal
namespace Go.Proofs.YtmmoenkmicimcaaGreatDoor
open Go.RowKit
set_option linter.unusedVariables false
set_option maxRecDepth 100000
abbrev Gb(g:Nat)(W l:World):Prop:=W.grownBy l (some g)
theorem Gb.refl(g:Nat)(W:World):Gb g W W:=World.grownBy.refl _ _
theorem Gb.tr {g:Nat}{a b c:World}(h:Gb g a b)(k:Gb g b c):Gb g a c:=World.grownBy.trans h k
theorem Gb.set(g i:Nat)(W:World)(v:Value):Gb g W (W.setCell ⟨g,i,none⟩ v):=⟨rfl,rfl,rfl,by simp,fun k q l=>by have:k≠g:=fun e=>l (by rw [e]);simp [World.setCell,Array.getElem?_modify,Ne.symm this]⟩
theorem Gb.of(g:Nat){W l:World}(h:Ext W l):Gb g W l:=⟨h.os,h.tape,h.output,h.size,fun i q _=>h.block i q⟩
theorem Gb.below {w0 W l:World}{g:Nat}(h:Below w0.heap.size w0 W)(k:Gb g W l)(hg:w0.heap.size<=g):Below w0.heap.size w0 l:=h.grown k h.size (fun r q=>by obtain rfl:=bc q;exact hg)
end Go.Proofs.YtmmoenkmicimcaaGreatDoor
