/- Parts Bk of the proof. -/
import Derived.Test.YtmmoenkmicimcaaGreatDoorDRag
import Derived.Lib.BufferWrite
import Derived.Lib.SlBuf
import Derived.Lib.SmallJoins
import Derived.OwnWalk
import Derived.Laws.CopyOwn
namespace Go.Proofs.YtmmoenkmicimcaaGreatDoor
open Go.RowKit
set_option linter.unusedVariables false
set_option maxRecDepth 100000
/-- A block of bytes known whole. -/
def Bk (w : World) (g : Nat) (xs : List UInt8) : Prop := w.heap[g]? = some (.cells (bvs xs).toArray 5 (0, 0))
theorem Bk.lt {w : World} {g : Nat} {xs : List UInt8} (h : Bk w g xs) : g < w.heap.size := block_lt h
theorem Bk.cell {w : World} {g : Nat} {xs : List UInt8} (h : Bk w g xs) {j : Nat} (hj : j < xs.length) : w.cell? ⟨g, j, none⟩ = some (.int .u8 (byteI xs j)) := by
  rw [cell_of_row w g j _ _ _ h, byteI_get hj]
  have := bvs_at hj
  simpa using this
theorem Bk.frozen {w : World} {g : Nat} {xs : List UInt8} (h : Bk w g xs) (j : Nat) : w.frozen? ⟨g, j, none⟩ = false := by
  unfold Bk at h
  simp [World.frozen?, h]
theorem Bk.ext {w w' : World} {g : Nat} {xs : List UInt8} (h : Bk w g xs) (b : Ext w w') : Bk w' g xs := (b.block g h.lt).trans h
theorem Bk.set {w : World} {g : Nat} {xs : List UInt8} (h : Bk w g xs) (j : Nat) (z : Int) (z0 : 0 ≤ z) (z1 : z < 256) : Bk (w.setCell ⟨g, j, none⟩ (.int .u8 z)) g (xs.set j (u8 z)) := by
  have := Joins.block_setCell (i := j) h (.int .u8 z)
  unfold Bk
  rw [this]
  have e : bv (u8 z) = .int .u8 z := by rw [bv_u8, Int.emod_eq_of_lt z0 z1]
  simp [bvs, e]
theorem Bk.own {w : World} {g B : Nat} {xs : List UInt8} (h : Bk w g xs) (hB : B ≤ g) (hm : xs.length ≤ maxLen) : Own w B 5 (.slice (some ⟨g, 0, none⟩) xs.length xs.length) (bvs xs) :=
  ⟨_, _, _, rfl, (bvs_length xs).symm, .inr ⟨g, _, rfl, hB, h, Nat.le_refl _, hm, by simp [bvs_length], by rw [← bvs_length xs]; simp⟩⟩
section
variable {ops : Array Oper} {rest : List Oper} {o : Oper} {a : Act} {Q : Exit → Act → World → Prop} {w w0 : World}
/-- out := make([]byte, n) -/
theorem makeB {B : Nat} (n : Nat) (z : Int) {l c : Operand} (hgd : o.guard = none) (ho : o.op = .makeSlice 48 l c) (hl : a.eval l = .int .i64 z) (hc : a.eval c = .int .i64 z) (hz : z = (n : Int)) (h47 : n ≤ 140737488355328) (hbel : Below B w0 w) (hB : B ≤ w.heap.size)
    (h : ∀ w', Bk w' w.heap.size (List.replicate n 0) → Below B w0 w' → Ext w w' → wpList Tryz.prog ops Q rest (a.put o.dst (.slice (some ⟨w.heap.size, 0, none⟩) n n)) w') : wpList Tryz.prog ops Q (o :: rest) a w := by
  obtain ⟨i, hi, h1, h2, h3⟩ := info_parts (show (Tryz.prog.info? 5).map (fun i => (i.zero, i.size, i.bytes)) = some (some (.int .u8 0), 1, 1) by kernel_rfl)
  refine wpList_make_full w hgd l c _ ho w.heap.size 5 i (.int .u8 0) 1 Tryz.underlying48 hi h1 h2 .i64 .i64 z z n hl hc hz hz (by rw [h3]; omega) (by unfold maxLen; omega) (Nat.le_refl _) ?_
  intro w' hown hg
  have hx : Ext w w' := (Below.refl _ _).grown hg (Nat.le_refl _) (fun k e => by cases e)
  refine h w' ?_ (hbel.trans (hx.mono hB)) hx
  rcases hown.2 with ⟨e, _⟩ | ⟨g, cap, cur, e, hge, hgg, hnc, hcm, hcs, ht⟩
  · cases e
  · injection e with e1 e2 e3
    injection e1 with e1
    injection e1 with e1
    subst e1 e3
    unfold Bk
    rw [hgg]
    congr 2
    have e4 : cur.toList.take (n * 1) = cur.toList := List.take_of_length_le (by simp [hcs])
    rw [e4] at ht
    have e5 : (madeCells (Value.int IntKind.u8 0).cells (n * 1)).toList = bvs (List.replicate n 0) := by
      apply List.ext_getElem
      · simp [size_madeCells, bvs_length]
      · intro i h1 h2
        simp [madeCells, Value.cells, bvs, bv, Nat.mod_one]
    rw [← e5, ← ht]
end
end Go.Proofs.YtmmoenkmicimcaaGreatDoor
