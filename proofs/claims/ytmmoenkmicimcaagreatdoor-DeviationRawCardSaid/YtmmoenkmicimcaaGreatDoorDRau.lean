/- Parts Cl of the proof. -/
import Derived.Test.YtmmoenkmicimcaaGreatDoorDRat
import Derived.Test.YtmmoenkmicimcaaGreatDoorDRao
namespace Go.Proofs.YtmmoenkmicimcaaGreatDoor
open Go.RowKit
set_option linter.unusedVariables false
set_option maxRecDepth 100000
section
variable {P : Program} {Q : Exit → Act → World → Prop} {w0 : World} {R : Act → World → Prop}
end
theorem run_buildNd (W : World) (t : Int) (A : Option Addr) (n c : Nat) : (Instr.build 94 [(0, .int .i64 t), (1, .slice A n c)].toArray).run Tryz.prog W = .ok (.agg #[.int .i64 t, .slice A n c, .slice none 0 0]) W := run_build W _ _ _ (by kernel_rfl)
theorem C3.ex {W W' : World} {b : Nat} {v0 v1 v2 : Value} (h : C3 W b v0 v1 v2) (k : Ext W W') : C3 W' b v0 v1 v2 := (k.block b (block_lt h)).trans h
theorem RdS.avoid {S S' : Nat → Prop} {w : World} {v : Value} {l : List UInt8} {yb : Nat} {z : Int} {A B : Option Addr} {n c n' c' : Nat} (h : RdS S w v (bvs l)) (hy : C3 w yb (.int .i64 z) (.slice A n c) (.slice B n' c')) (hS : ∀ b, S b → b < w.heap.size → b ≠ yb → S' b) : RdS S' w v (bvs l) := by
  obtain ⟨A, n, c, h1, h2, h3, h4, h5⟩ := h
  refine ⟨A, n, c, h1, h2, h3, h4, fun h0 => ?_⟩
  obtain ⟨b, o, q1, q2, q3⟩ := h5 h0
  rw [bvs_length] at h2
  have c0 := q3 0 _ (bvs_at (by omega))
  refine ⟨b, o, q1, hS b q2 (World.block_lt_of_cell? w _ c0) (fun e => ?_), q3⟩
  subst e
  rw [cell_of_row w b (o + 0) _ _ _ hy] at c0
  match o, c0 with
  | 0, c0 => simp at c0
  | 1, c0 => simp at c0
  | 2, c0 => simp at c0
  | o + 3, c0 => simp at c0
end Go.Proofs.YtmmoenkmicimcaaGreatDoor
