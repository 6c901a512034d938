/- The two tables of the digest. -/
import Derived.Test.YtkjplpmogfmhkaaGreatDoorWd3
namespace Go.Proofs.YtkjplpmogfmhkaaGreatDoor
open Go.RowKit

/-- The two tables of the digest are there. -/
structure Env (w : World) : Prop where
  d : KTab w 1
  r : KTab w 0
theorem Env.ext {w w' : World} (h : Env w) (b : Ext w w') : Env w' := ⟨h.d.below b, h.r.below b⟩

end Go.Proofs.YtkjplpmogfmhkaaGreatDoor
