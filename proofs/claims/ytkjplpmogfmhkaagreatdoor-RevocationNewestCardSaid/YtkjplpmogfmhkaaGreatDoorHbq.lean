/- Parts Pkp of the proof. -/
import Derived.Test.YtkjplpmogfmhkaaGreatDoorHaq
import Derived.Test.YtkjplpmogfmhkaaGreatDoorHau
namespace Go.Proofs.YtkjplpmogfmhkaaGreatDoor
open Go.Joins Go.ChangeShapes Go.WideShapes Go.ChangeAt Go.RowKit
set_option linter.unusedVariables false
set_option maxRecDepth 100000
theorem nT {z:Int} (h:(Lit.int .i64 z).wf=true):-9223372036854775808<=z/\z<9223372036854775808:=by
 simp only [Lit.wf,Bool.and_eq_true,decide_eq_true_eq] at h
 obtain ⟨h1,h2⟩:=h
 have e1:IntKind.i64.min=-9223372036854775808:=rfl
 have e2:IntKind.i64.max=9223372036854775807:=rfl
 omega
section
variable {H:Type}{enc:TypeId × Value->H}{W:World}{base:Nat}{v:Value}{d:DataW H}{p:List MemPlace}
end
open Go.Joins Go.ChangeShapes Go.WideShapes Go.ChangeAt Go.RowKit Go.Deep
section
variable {H:Type}{enc:TypeId × Value->H}{P:Program}{W:World}{spare:Nat->Bool}{held:Bool}
end
section
variable {H:Type}{enc:TypeId × Value->H}{W:World}
end
section
variable {H:Type}{enc:TypeId × Value->H}{W:World}{base:Nat}{v:Value}{d:DataW H}{p:List MemPlace}
end
end Go.Proofs.YtkjplpmogfmhkaaGreatDoor
