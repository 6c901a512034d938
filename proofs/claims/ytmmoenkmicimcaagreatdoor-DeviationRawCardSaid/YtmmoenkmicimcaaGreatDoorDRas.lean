/- Parts Tr of the proof. -/
import Derived.Test.YtmmoenkmicimcaaGreatDoorDRai
import Derived.BigQuiet
import Derived.Laws.AppendOwn
namespace Go.Proofs.YtmmoenkmicimcaaGreatDoor
open Go.RowKit
set_option linter.unusedVariables false
set_option maxRecDepth 100000
abbrev Gb (g : Nat) (W W' : World) : Prop := W.grownBy W' (some g)
theorem Gb.refl (g : Nat) (W : World) : Gb g W W := World.grownBy.refl _ _
theorem Gb.tr {g : Nat} {a b c : World} (h : Gb g a b) (k : Gb g b c) : Gb g a c := World.grownBy.trans h k
theorem Gb.set (g i : Nat) (W : World) (v : Value) : Gb g W (W.setCell ⟨g, i, none⟩ v) := ⟨rfl, rfl, rfl, by simp, fun k hk hne => by
  have : k ≠ g := fun e => hne (by rw [e])
  simp [World.setCell, Array.getElem?_modify, Ne.symm this]⟩
theorem Gb.of (g : Nat) {W W' : World} (h : Ext W W') : Gb g W W' := ⟨h.os, h.tape, h.output, h.size, fun i hi _ => h.block i hi⟩
theorem Gb.below {w0 W W' : World} {g : Nat} (h : Below w0.heap.size w0 W) (k : Gb g W W') (hg : w0.heap.size ≤ g) : Below w0.heap.size w0 W' := h.grown k h.size (fun r hr => by obtain rfl := Option.some.inj hr; exact hg)
end Go.Proofs.YtmmoenkmicimcaaGreatDoor
