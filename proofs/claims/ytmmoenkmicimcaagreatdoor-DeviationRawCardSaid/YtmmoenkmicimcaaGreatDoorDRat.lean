/- Parts Tt Tu of the proof. -/
import Derived.Test.YtmmoenkmicimcaaGreatDoorDRas
import Derived.Lib.SliceRun
import Derived.Deep.LoopGhost
import Derived.Lib.LazyBuf
import Derived.Test.YtmmoenkmicimcaaGreatDoorDRab
namespace Go.Proofs.YtmmoenkmicimcaaGreatDoor
open Go.RowKit
set_option linter.unusedVariables false
set_option maxRecDepth 100000
theorem rowOf_ltK {w : World} {B : Nat} {e : TypeId} {k : Nat} {v : Value} {xs : List Value} (h : OwnK w B e k v xs) : ∀ r, rowOf v = some r → r < w.heap.size := by
  obtain ⟨A, n, c, rfl, hn, ⟨rfl, rfl⟩ | ⟨g, cur, rfl, hb, hg, _⟩⟩ := h
  · intro k hk; cases A <;> simp [rowOf] at hk
  · intro k hk
    cases c with
    | zero => simp [rowOf] at hk
    | succ c =>
      have := block_lt hg
      simp [rowOf] at hk
      omega
end Go.Proofs.YtmmoenkmicimcaaGreatDoor
namespace Go.Proofs.YtmmoenkmicimcaaGreatDoor
open Go.RowKit
set_option linter.unusedVariables false
set_option maxRecDepth 100000
section
variable {P : Program} {Q : Exit → Act → World → Prop} {w0 : World} {R : Act → World → Prop}
/-- A nil check of a pointer that is none, in a region that draws. -/
theorem wpX_nil {o : Oper} {rest : List Oper} {a : Act} {hs : List (Nat × VPred)} {d : Nat} (ad : Addr) {x : Operand} (hd : o.dst = some d) (hz : Nat.blt d a.tmps.size = true) (ho : o.op = .nilCheck x) (hx : a.eval x = .pointer (some ad)) (hn : noHole o hs = true)
    (hr : wpX P Q w0 R rest (a.put (some d) (.pointer (some ad))) hs) : wpX P Q w0 R (o :: rest) a hs :=
  wpX_call (.pointer (some ad)) hd hz (by unfold notSelect; rw [ho]) hn (fun m K hK => by
    unfold Oper.wp execOp
    simp only [ho, hx, Sem.run_pure, Oper.upon]
    exact hK _ _ (by rw [hd]; rfl) ⟨Below.refl _ _, by rw [hd, eval_put_same (blt_lt hz)]⟩) hr
end
/-- A block of three cells. -/
def C3 (W : World) (b : Nat) (v0 v1 v2 : Value) : Prop := W.heap[b]? = some (.cells #[v0, v1, v2] 94 (0, 0))
theorem C3.cells {W : World} {b : Nat} {v0 v1 v2 : Value} (h : C3 W b v0 v1 v2) : W.cell? ⟨b, 0, none⟩ = some v0 ∧ W.cell? ⟨b, 1, none⟩ = some v1 ∧ W.cell? ⟨b, 2, none⟩ = some v2 ∧ W.frozen? ⟨b, 0, none⟩ = false ∧ W.frozen? ⟨b, 1, none⟩ = false ∧ W.frozen? ⟨b, 2, none⟩ = false := by
  refine ⟨?_, ?_, ?_, ?_, ?_, ?_⟩
  · rw [cell_of_row W b 0 _ _ _ h]; rfl
  · rw [cell_of_row W b 1 _ _ _ h]; rfl
  · rw [cell_of_row W b 2 _ _ _ h]; rfl
  all_goals (unfold C3 at h; simp [World.frozen?, h])
theorem C3.gb {W W' : World} {g b : Nat} {v0 v1 v2 : Value} (h : C3 W b v0 v1 v2) (k : Gb g W W') (hne : b ≠ g) : C3 W' b v0 v1 v2 := (k.block b (block_lt h) (fun e => hne (by injection e))).trans h
theorem C3.new (W : World) (v0 v1 v2 : Value) : C3 (W.alloc (.cells #[v0, v1, v2] 94)) W.heap.size v0 v1 v2 := heap_alloc_new' W _
theorem C3.lt {W : World} {b : Nat} {v0 v1 v2 : Value} (h : C3 W b v0 v1 v2) : b < W.heap.size := block_lt h
theorem Gb.poke {g b i : Nat} {W W' : World} {v : Value} (h : Gb g W W') (hb : W.heap.size ≤ b) : Gb g W (W'.setCell ⟨b, i, none⟩ v) :=
  ⟨h.os, h.tape, h.output, by simpa using h.size, fun k hk hne => by
    have e : k ≠ b := by omega
    rw [← h.block k hk hne]
    simp [World.setCell, Array.getElem?_modify, Ne.symm e]⟩
theorem setCell_block {W : World} {b i k : Nat} {v : Value} (h : k ≠ b) : (W.setCell ⟨b, i, none⟩ v).heap[k]? = W.heap[k]? := by simp [World.setCell, Array.getElem?_modify, Ne.symm h]
theorem C3.other {W : World} {b b' i : Nat} {v0 v1 v2 v : Value} (h : C3 W b v0 v1 v2) (hne : b ≠ b') : C3 (W.setCell ⟨b', i, none⟩ v) b v0 v1 v2 := (setCell_block hne).trans h
abbrev set3 (W : World) (b : Nat) (v0 v1 v2 : Value) : World := ((W.setCell ⟨b, 0, none⟩ v0).setCell ⟨b, 1, none⟩ v1).setCell ⟨b, 2, none⟩ v2
theorem C3.set2 {W : World} {b : Nat} {v0 v1 v2 : Value} (h : C3 W b v0 v1 v2) (u : Value) : C3 (W.setCell ⟨b, 2, none⟩ u) b v0 v1 u := by
  unfold C3 at h ⊢
  simp only [World.setCell, Array.getElem?_modify, if_true, h, Option.map_some]
  rfl
theorem C3.set1 {W : World} {b : Nat} {v0 v1 v2 : Value} (h : C3 W b v0 v1 v2) (u : Value) : C3 (W.setCell ⟨b, 1, none⟩ u) b v0 u v2 := by
  unfold C3 at h ⊢
  simp only [World.setCell, Array.getElem?_modify, if_true, h, Option.map_some]
  rfl
theorem C3.set0 {W : World} {b : Nat} {v0 v1 v2 : Value} (h : C3 W b v0 v1 v2) (u : Value) : C3 (W.setCell ⟨b, 0, none⟩ u) b u v1 v2 := by
  unfold C3 at h ⊢
  simp only [World.setCell, Array.getElem?_modify, if_true, h, Option.map_some]
  rfl
theorem C3.set3 {W : World} {b : Nat} {v0 v1 v2 : Value} (h : C3 W b v0 v1 v2) (u0 u1 u2 : Value) : C3 (set3 W b u0 u1 u2) b u0 u1 u2 := ((h.set0 u0).set1 u1).set2 u2
theorem Gb.set3 {g b : Nat} {W W' : World} {v0 v1 v2 : Value} (h : Gb g W W') (hb : W.heap.size ≤ b) : Gb g W (set3 W' b v0 v1 v2) := ((h.poke hb).poke hb).poke hb
theorem set3_block {W : World} {b k : Nat} {v0 v1 v2 : Value} (h : k ≠ b) : (set3 W b v0 v1 v2).heap[k]? = W.heap[k]? := by
  unfold Go.Proofs.YtmmoenkmicimcaaGreatDoor.set3
  rw [setCell_block h, setCell_block h, setCell_block h]
end Go.Proofs.YtmmoenkmicimcaaGreatDoor
