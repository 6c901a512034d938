/- Parts Jm of the proof. -/
import Derived.Test.YtkjplpmogfmhkaaGreatDoorMaw
import Derived.Test.YtkjplpmogfmhkaaGreatDoorMat
import Derived.BigRegion
import Derived.Deep.CutRange
namespace Go.Proofs.YtkjplpmogfmhkaaGreatDoor
open Go.RowKit
set_option linter.unusedVariables false
set_option maxRecDepth 100000
theorem setL_setN (w : World) (g : Nat) {cur : List Value} {p : List NC} {rest : List Value} {T : TypeId} {fr : Nat × Nat} (h : w.heap[g]? = some (.cells cur.toArray T fr)) (hc : cur = ncsCells p ++ rest) (i : Nat) (hi : i < p.length) (x : NC) :
    (setL w g (i * 11) (ncCells x)).heap[g]? = some (.cells (ncsCells (p.set i x) ++ rest).toArray T fr) := by
  have e : p = p.take i ++ [p[i]] ++ p.drop (i + 1) := by
    rw [List.append_assoc, List.singleton_append, ← List.drop_eq_getElem_cons hi, List.take_append_drop]
  have e2 : p.set i x = p.take i ++ [x] ++ p.drop (i + 1) := by
    rw [List.set_eq_take_append_cons_drop, if_pos hi, List.append_assoc]
    rfl
  have hl : (ncsCells (p.take i)).length = i * 11 := by rw [ncsCells_len, List.length_take, Nat.min_eq_left (Nat.le_of_lt hi)]
  have one : ∀ y, ncsCells [y] = ncCells y := fun y => by simp [ncsCells]
  have h' : w.heap[g]? = some (.cells (ncsCells (p.take i) ++ ncCells p[i] ++ (ncsCells (p.drop (i + 1)) ++ rest)).toArray T fr) := by
    rw [h, hc]
    congr 3
    conv => lhs; rw [e, ← ncsCells_app, ← ncsCells_app, one]
    simp only [List.append_assoc]
  have h2 := setL_mid (ncCells x) (ncsCells (p.take i)) (ncsCells (p.drop (i + 1)) ++ rest) w g (ncCells p[i]) T fr h' rfl
  rw [hl] at h2
  rw [h2, e2, ← ncsCells_app, ← ncsCells_app, one]
  simp only [List.append_assoc]
end Go.Proofs.YtkjplpmogfmhkaaGreatDoor
