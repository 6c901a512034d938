/- Layer 9: Encode, Decode. -/
import Derived.Test.YtkjplpmogfmhkaaDoorSv
import Derived.Test.YtkjplpmogfmhkaaDoorWg
namespace Go.Proofs.YtkjplpmogfmhkaaDoor
open Go.RowKit
set_option linter.unusedVariables false
set_option maxRecDepth 100000

theorem be4_length (x : Int) : (be4 x).length = 4 := rfl
/-- Where the loop stands. -/
def EncR (w : World) (e s : Int) (v i : Value) (wr : World) : Prop :=
  ∃ A n c, v = .slice A n c ∧ Ext w wr ∧ ((i = .int .i64 0 ∧ Own wr w.heap.size 5 (.slice A n c) (bvs [])) ∨ (i = .int .i64 1 ∧ Own wr w.heap.size 5 (.slice A n c) (bvs (be4 e))) ∨ (i = .int .i64 2 ∧ Hid (n = 8) ∧ Own wr w.heap.size 5 (.slice A n c) (bvs (be4 e ++ be4 s))))
def EncR2 (w : World) (e : Int) (v i : Value) (wr : World) : Prop :=
  ∃ A n c, v = .slice A n c ∧ Ext w wr ∧ ((i = .int .i64 0 ∧ Own wr w.heap.size 5 (.slice A n c) (bvs [])) ∨ (i = .int .i64 1 ∧ Own wr w.heap.size 5 (.slice A n c) (bvs (be4 e))))
def encB (e s : Int) : List UInt8 := if inB 0 1073741789 e = true ∧ inB 0 1073741789 s = true then be4 e ++ be4 s else []
def encK (e s : Int) : Int := if inB 0 1073741789 e = true ∧ inB 0 1073741789 s = true then 0 else 3
end Go.Proofs.YtkjplpmogfmhkaaDoor
