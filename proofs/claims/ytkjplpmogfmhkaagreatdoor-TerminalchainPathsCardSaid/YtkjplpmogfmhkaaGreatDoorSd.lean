/- Layer 9: Decode. -/
import Derived.Test.YtkjplpmogfmhkaaGreatDoorSe
namespace Go.Proofs.YtkjplpmogfmhkaaGreatDoor
open Go.RowKit
set_option linter.unusedVariables false
set_option maxRecDepth 100000

/-- What Decode returns. -/
def dcOk (l : List UInt8) : Prop := inB 0 1073741789 (num (l.take 4)) = true ∧ inB 0 1073741789 (num (l.drop 4)) = true
instance (l : List UInt8) : Decidable (dcOk l) := inferInstanceAs (Decidable (_ ∧ _))
def dcE (l : List UInt8) : Int := if l.length = 8 ∧ dcOk l then num (l.take 4) else 0
def dcS (l : List UInt8) : Int := if l.length = 8 ∧ dcOk l then num (l.drop 4) else 0
def dcK (l : List UInt8) : Int := if l.length = 8 then (if dcOk l then 0 else 3) else 2
theorem num_be4 {x : Int} (h0 : 0 ≤ x) (h1 : x < 4294967296) : num (be4 x) = x := by
  simp only [num, be4, List.foldl_cons, List.foldl_nil, u8_val]
  omega
theorem dc_enc {e s : Int} (he : inB 0 1073741789 e = true) (hs : inB 0 1073741789 s = true) : dcE (be4 e ++ be4 s) = e ∧ dcS (be4 e ++ be4 s) = s ∧ dcK (be4 e ++ be4 s) = 0 := by
  obtain ⟨e0, e1⟩ := inB_true he
  obtain ⟨s0, s1⟩ := inB_true hs
  have t1 : (be4 e ++ be4 s).take 4 = be4 e := rfl
  have t2 : (be4 e ++ be4 s).drop 4 = be4 s := rfl
  have l8 : (be4 e ++ be4 s).length = 8 := rfl
  have ho : dcOk (be4 e ++ be4 s) := by
    unfold dcOk
    rw [t1, t2, num_be4 e0 (by omega), num_be4 s0 (by omega)]
    exact ⟨he, hs⟩
  unfold dcE dcS dcK
  rw [if_pos ⟨l8, ho⟩, if_pos ⟨l8, ho⟩, if_pos l8, if_pos ho, t1, t2, num_be4 e0 (by omega), num_be4 s0 (by omega)]
  exact ⟨rfl, rfl, rfl⟩
end Go.Proofs.YtkjplpmogfmhkaaGreatDoor
