/- Parts Xw of the proof. -/
import Derived.Test.YthbpdhanljpigaaGreatDoorVas
import Derived.Test.YthbpdhanljpigaaGreatDoorVat
import Derived.Laws.CopyOwn
import Derived.Laws.Rows
import Derived.Laws.Tables
namespace Go.Proofs.YthbpdhanljpigaaGreatDoor
open Go.RowKit
set_option linter.unusedVariables false
theorem ext_setRow {w w' : World} {g : Nat} (h : Ext w w') (hg : w.heap.size ≤ g) (cs : Array Value) : Ext w (w'.setRow g cs) := below_setRow h hg cs
theorem Gb.setRow (g : Nat) (W : World) (cs : Array Value) : Gb g W (W.setRow g cs) := ⟨rfl, rfl, rfl, by simp, fun k hk hne => setRow_other W g k cs (fun q => hne (by rw [q]))⟩
theorem setRow_block {w : World} {g k : Nat} {cs : Array Value} (h : k ≠ g) : (w.setRow g cs).heap[k]? = w.heap[k]? := setRow_other w g k cs h
section
variable {P : Program} {ty t : TypeId} {w : World} {g : Nat} {old cells : Array Value}
/-- The store of a whole row in a walk, its cells named by the caller. -/
theorem wpRow_store {ops : Array Oper} {rest : List Oper} {o : Oper} {a : Act} {w : World} {Q : Exit → Act → World → Prop} (hgd : o.guard = none) (ty : TypeId) (x y : Operand) (ho : o.op = .store ty x y)
    (hd : o.dst = none) (g : Nat) (cells : Array Value) (hx : a.eval x = .pointer (some ⟨g, 0, none⟩)) (hy : a.eval y = .agg cells)
    (t : TypeId) (old : Array Value) (hg : w.heap[g]? = some (.cells old t (0, 0))) (hi : (P.info? ty).map (·.size) = some cells.size)
    (hold : old.size = cells.size) (h1 : cells.all (·.oneCell') = true)
    (h : wpList P ops Q rest a (w.setRow g cells)) : wpList P ops Q (o :: rest) a w :=
  wpList_store_row hgd ty x y ho g cells hx hy t old hg hi hold h1 (by rw [hd]; exact h)
theorem row_at (hg : w.heap[g]? = some (.cells old t (0, 0))) : (w.setRow g cells).heap[g]? = some (.cells cells t (0, 0)) := setRow_heap w g old cells t (0, 0) hg
end
end Go.Proofs.YthbpdhanljpigaaGreatDoor
