/- Parts Jy of the proof. -/
import Derived.Test.YtkjplpmogfmhkaaGreatDoorVaz
import Derived.Test.YtkjplpmogfmhkaaGreatDoorVau
namespace Go.Proofs.YtkjplpmogfmhkaaGreatDoor
open Go.RowKit
set_option linter.unusedVariables false
set_option maxRecDepth 100000
theorem tn_tp : 56 ≠ 53 := by decide
theorem info_po : (Tryz.prog.info? 53).map (·.size) = some 4 := by kernel_rfl
def poRow (R L T : Value) (day : Int) : Array Value := #[R, L, T, .int .i64 day]
def PoAt (w : World) (P : Nat) (R L T : Value) (day : Int) : Prop := w.heap[P]? = some (.cells #[R, L, T, .int .i64 day] 53 (0, 0))
section
variable {w w' : World} {P : Nat} {R L T : Value} {day : Int}
theorem PoAt.lt (h : PoAt w P R L T day) : P < w.heap.size := block_lt h
theorem PoAt.ext (h : PoAt w P R L T day) (e : Ext w w') : PoAt w' P R L T day := (e.block P h.lt).trans h
theorem PoAt.frozen (h : PoAt w P R L T day) (i : Nat) : w.frozen? ⟨P, i, none⟩ = false := by
  unfold PoAt at h
  simp [World.frozen?, h]
theorem PoAt.c0 (h : PoAt w P R L T day) : w.cell? ⟨P, 0, none⟩ = some R := by rw [cell_of_row w P 0 _ _ _ h]; rfl
theorem PoAt.c1 (h : PoAt w P R L T day) : w.cell? ⟨P, 1, none⟩ = some L := by rw [cell_of_row w P 1 _ _ _ h]; rfl
theorem PoAt.c2 (h : PoAt w P R L T day) : w.cell? ⟨P, 2, none⟩ = some T := by rw [cell_of_row w P 2 _ _ _ h]; rfl
theorem PoAt.c3 (h : PoAt w P R L T day) : w.cell? ⟨P, 3, none⟩ = some (.int .i64 day) := by rw [cell_of_row w P 3 _ _ _ h]; rfl
theorem PoAt.gb {D : Nat} (h : PoAt w P R L T day) (e : Gb D w w') (hne : P ≠ D) : PoAt w' P R L T day := (e.block P h.lt (fun q => hne (by injection q))).trans h
theorem PoAt.grown {r : Option Nat} (h : PoAt w P R L T day) (e : w.grownBy w' r) (hne : some P ≠ r) : PoAt w' P R L T day := (e.block P h.lt hne).trans h
theorem PoAt.put0 (h : PoAt w P R L T day) (v : Value) : PoAt (w.setCell ⟨P, 0, none⟩ v) P v L T day := by
  have h9 := row_set h 0 v
  simp only [List.setIfInBounds_toArray, List.set_cons_zero] at h9
  exact h9
theorem PoAt.put1 (h : PoAt w P R L T day) (v : Value) : PoAt (w.setCell ⟨P, 1, none⟩ v) P R v T day := by
  have h9 := row_set h 1 v
  simp only [List.setIfInBounds_toArray, List.set_cons_zero, List.set_cons_succ] at h9
  exact h9
theorem PoAt.put2 (h : PoAt w P R L T day) (v : Value) : PoAt (w.setCell ⟨P, 2, none⟩ v) P R L v day := by
  have h9 := row_set h 2 v
  simp only [List.setIfInBounds_toArray, List.set_cons_zero, List.set_cons_succ] at h9
  exact h9
theorem PoAt.put3 (h : PoAt w P R L T day) (d : Int) : PoAt (w.setCell ⟨P, 3, none⟩ (.int .i64 d)) P R L T d := by
  have h9 := row_set h 3 (.int .i64 d)
  simp only [List.setIfInBounds_toArray, List.set_cons_zero, List.set_cons_succ] at h9
  exact h9
theorem po_alloc (w : World) : ∃ wz, wz = w.alloc (.cells #[.slice none 0 0, .slice none 0 0, .slice none 0 0, .int .i64 0] 53) ∧ Ext w wz ∧ PoAt wz w.heap.size (.slice none 0 0) (.slice none 0 0) (.slice none 0 0) 0 :=
  ⟨_, rfl, (Below.refl _ _).alloc (Nat.le_refl _) _, heap_alloc_new' w _⟩
end
/-- Where the blocks lie. -/
structure PoB (w : World) (B D b P : Nat) : Prop where
  rB : w.heap.size < B
  D1 : w.heap.size < D
  D2 : D < B
  b1 : w.heap.size < b
  b2 : b < B
  P1 : w.heap.size < P
  P2 : P < B
  DP : D ≠ P
  bP : b ≠ P
/-- Where Pools stands: the result's block zero, the pool's block, lists that share no memory. -/
structure PoI (w : World) (B D b P : Nat) (day : Int) (R L T : Value) (vs : List (Value × List NC)) (wr : World) : Prop where
  ext : Ext w wr
  dice : ∃ M, DiceAt wr D b M
  rz : PoAt wr w.heap.size (.slice none 0 0) (.slice none 0 0) (.slice none 0 0) 0
  po : PoAt wr P R L T day
  fam : Fam wr B vs
  size : B ≤ wr.heap.size
section
variable {w wr wx : World} {B D b P : Nat} {day : Int} {R L T : Value} {vs us t : List (Value × List NC)}
theorem PoI.step (h : PoI w B D b P day R L T vs wr) (e : Ext wr wx) : PoI w B D b P day R L T vs wx := by
  obtain ⟨h1, ⟨M, h2⟩, h3, h4, h5, h6⟩ := h
  exact ⟨h1.tr e, ⟨M, h2.ext e⟩, h3.ext e, h4.ext e, h5.ext e, by have := e.size; omega⟩
theorem PoI.perm (h : PoI w B D b P day R L T vs wr) (p : vs.Perm us) : PoI w B D b P day R L T us wr := ⟨h.ext, h.dice, h.rz, h.po, h.fam.perm p, h.size⟩
theorem PoI.next (h : PoI w B D b P day R L T vs wr) (q : PoB w B D b P) (n : Int) (n1 : 1 ≤ n) (n2 : n ≤ 4611686018427387904) :
    Calls Tryz.prog 111 #[.pointer (some ⟨D, 0, none⟩), .int .i64 n] wr fun e w' => ∃ z : Int, 0 ≤ z ∧ z < n ∧ e = .returned (.int .i64 z) ∧ PoI w B D b P day R L T vs w' ∧ Gb D wr w' := by
  obtain ⟨h1, ⟨M, h2⟩, h3, h4, h5, h6⟩ := h
  refine (next_any n wr h2 n2).mono fun e w' ⟨q1, q2, q3, q4⟩ => ⟨dv M n, (dv_bd M n1).1, (dv_bd M n1).2, q1, ⟨Gb.below h1 q2 (Nat.le_of_lt q.D1), ⟨_, q3⟩, h3.gb q2 (Nat.ne_of_lt q.D1), h4.gb q2 (fun e => q.DP e.symm), h5.gbB q.D2 q2, by omega⟩, q2⟩
/-- The pool's block poked. -/
theorem PoI.poke {v : Value} {i : Nat} {R' L' T' : Value} {day' : Int} (h : PoI w B D b P day R L T vs wr) (q : PoB w B D b P) (hp : PoAt (wr.setCell ⟨P, i, none⟩ v) P R' L' T' day') : PoI w B D b P day' R' L' T' vs (wr.setCell ⟨P, i, none⟩ v) := by
  obtain ⟨h1, ⟨M, h2⟩, h3, h4, h5, h6⟩ := h
  refine ⟨ext_set h1 (Nat.le_of_lt q.P1), ⟨M, h2.keep (setCell_block q.DP) (setCell_block q.bP)⟩, (setCell_block (Nat.ne_of_lt q.P1)).trans h3, hp, h5.gbB q.P2 (Gb.set P i wr v), by simpa using h6⟩
/-- A list of the family grown. -/
theorem PoI.app {v v' : Value} {xs ys : List NC} (h : PoI w B D b P day R L T ((v, xs) :: t) wr) (q : PoB w B D b P) (o : OwnK wx B 56 11 v' (ncsCells ys)) (g : wr.grownBy wx (rowOf v)) (f : ∀ r, rowOf v' = some r → rowOf v = some r ∨ wr.heap.size ≤ r) : PoI w B D b P day R L T ((v', ys) :: t) wx := by
  obtain ⟨h1, ⟨M, h2⟩, h3, h4, h5, h6⟩ := h
  have hr : ∀ k, k < B → some k ≠ rowOf v := fun k hk e => by have := rowOf_geK h5.head k e.symm; omega
  refine ⟨h1.grown g h1.size (fun k hk => by have := rowOf_geK h5.head k hk; have := q.rB; omega), ⟨M, h2.keep (g.block D h2.lt (hr D q.D2)) (g.block b h2.ltb (hr b q.b2))⟩, h3.grown g (hr _ q.rB), h4.grown g (hr _ q.P2), h5.app o g f, by have := g.size; omega⟩
theorem PoI.fresh {v : Value} {xs : List NC} (h : PoI w B D b P day R L T t wr) (e : Ext wr wx) (o : OwnK wx wr.heap.size 56 11 v (ncsCells xs)) : PoI w B D b P day R L T ((v, xs) :: t) wx := by
  have k := h.step e
  exact ⟨k.ext, k.dice, k.rz, k.po, h.fam.fresh e h.size o, k.size⟩
theorem PoI.fresh2 {v v2 : Value} {xs xs2 : List NC} (h : PoI w B D b P day R L T t wr) (e : Ext wr wx) (o : OwnK wx wr.heap.size 56 11 v (ncsCells xs)) (o2 : OwnK wx wr.heap.size 56 11 v2 (ncsCells xs2)) (a : apart v v2) : PoI w B D b P day R L T ((v, xs) :: (v2, xs2) :: t) wx := by
  have k := h.step e
  exact ⟨k.ext, k.dice, k.rz, k.po, h.fam.fresh2 e h.size o o2 a, k.size⟩
theorem PoI.tail {v : Value} {xs : List NC} (h : PoI w B D b P day R L T ((v, xs) :: t) wr) : PoI w B D b P day R L T t wr := ⟨h.ext, h.dice, h.rz, h.po, h.fam.tail, h.size⟩
theorem AuAt.gbr {g : Nat} {x : AB} {r : Option Nat} (h : AuAt wr g x) (e : wr.grownBy wx r) (hne : r ≠ some g) : AuAt wx g x := (e.block g h.lt (fun q => hne q.symm)).trans h
end
/-- One certificate in a new slice. -/
def GOneE (B : Nat) (c : NC) : VPred := fun v w => ∃ g, v = .slice (some ⟨g, 0, none⟩) 1 1 ∧ B ≤ g ∧ w.heap[g]? = some (.cells (ncCells c).toArray 56 (0, 0))
theorem stable_GOneE (B : Nat) (c : NC) : StableP (GOneE B c) := fun v w w' e ⟨g, h1, h2, h3⟩ => ⟨g, h1, h2, (e.block g (block_lt h3)).trans h3⟩
theorem goneE (W : World) (B : Nat) (c : NC) (h : B ≤ W.heap.size) : GOneE B c (.slice (some ⟨W.heap.size, 0, none⟩) 1 1) (W.alloc (.cells (ncCells c).toArray 56)) := ⟨_, rfl, h, heap_alloc_new' W _⟩
theorem rd_one {w : World} {g : Nat} {c : NC} (h : w.heap[g]? = some (.cells (ncCells c).toArray 56 (0, 0))) : RdK w 11 (.slice (some ⟨g, 0, none⟩) 1 1) (ncCells c) :=
  ⟨_, 1, 1, rfl, rfl, Nat.le_refl _, by unfold maxLen; omega, fun _ => ⟨g, 0, rfl, fun j u hu => by
    rw [Nat.zero_add, cell_of_row w g j _ _ (0, 0) h, List.getElem?_toArray]
    exact hu⟩⟩
theorem own_one {w : World} {g B : Nat} {c : NC} (h : w.heap[g]? = some (.cells (ncCells c).toArray 56 (0, 0))) (hB : B ≤ g) : OwnK w B 56 11 (.slice (some ⟨g, 0, none⟩) 1 1) (ncsCells [c]) :=
  ⟨_, 1, 1, rfl, by simp [ncsCells, ncCells], .inr ⟨g, _, rfl, hB, h, Nat.le_refl _, by unfold maxLen; omega, rfl, by simp [ncsCells, ncCells]⟩⟩
end Go.Proofs.YtkjplpmogfmhkaaGreatDoor
