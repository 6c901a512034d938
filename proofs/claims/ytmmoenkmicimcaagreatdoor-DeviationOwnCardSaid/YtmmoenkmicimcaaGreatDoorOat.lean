import Derived.Test.YtmmoenkmicimcaaGreatDoorOar
import Derived.Lib.SmallJoins
namespace Go.Proofs.YtmmoenkmicimcaaGreatDoor
open Go.Joins Go.ChangeShapes Go.WideShapes Go.ChangeAt Go.RowKit
set_option linter.unusedVariables false
set_option maxRecDepth 100000
theorem uY {z:Int}(h:(Lit.int .i64 z).wf=true):-9223372036854775808<=z/\z<9223372036854775808:=by simp only [Lit.wf,Bool.and_eq_true,decide_eq_true_eq]at h;obtain⟨l,q⟩:=h;have C:IntKind.i64.min=-9223372036854775808:=rfl;have F:IntKind.i64.max=9223372036854775807:=rfl;omega
section
variable {H:Type}{enc:TypeId × Value->H}{W:World}{base:Nat}{v:Value}{d:DataW H}{p:List MemPlace}
end
end Go.Proofs.YtmmoenkmicimcaaGreatDoor
