/- More words on slices of bytes, new bytes in a region, what calls return. -/
import Derived.Test.YtkjplpmogfmhkaaGreatDoorB
import Derived.Test.YtkjplpmogfmhkaaGreatDoorWx
import Derived.Lib.SlBytesConst
namespace Go.Proofs.YtkjplpmogfmhkaaGreatDoor
open Go.RowKit
set_option linter.unusedVariables false

theorem heap_alloc_new' (w : World) (o : Obj) : (w.alloc o).heap[w.heap.size]? = some o := by show (w.heap.push o)[w.heap.size]? = _; simp
/-- A literal's row, with the mark of a conversion. -/
theorem Rd.litM (w : World) (cs : Array Value) (e : TypeId) (fr : Nat × Nat) (n : Nat) (hn : n = cs.size) (hm : n ≤ maxLen) : Rd (w.alloc (.cells cs e fr)) (.slice (some ⟨w.heap.size, 0, none⟩) n n) cs.toList := by
  refine ⟨_, n, n, rfl, by simpa using hn, Nat.le_refl _, hm, fun _ => ⟨_, 0, rfl, fun j u hu => ?_⟩⟩
  rw [Nat.zero_add, cell_of_row _ _ j cs e fr (heap_alloc_new' w _)]
  simpa using hu
theorem Rd.take {w : World} {A : Option Addr} {n c : Nat} {l : List UInt8} (h : Rd w (.slice A n c) (bvs l)) (k : Nat) (hk : k ≤ n) : Rd w (.slice A k c) (bvs (l.take k)) := by
  obtain ⟨A', n', c', e, hn, hnc, hcm, hc⟩ := h
  injection e with e1 e2 e3
  subst e1 e2 e3
  rw [bvs_length] at hn
  refine ⟨_, k, _, rfl, by rw [bvs_length, List.length_take]; omega, by omega, hcm, fun h0 => ?_⟩
  obtain ⟨b, o, rfl, hcell⟩ := hc (by omega)
  refine ⟨b, o, rfl, fun j u hu => hcell j u ?_⟩
  simp only [bvs, List.getElem?_map, List.getElem?_take] at hu ⊢
  split at hu
  · exact hu
  · cases hu
theorem Rd.caps {w : World} {A : Option Addr} {n c : Nat} {xs : List Value} (h : Rd w (.slice A n c) xs) : n ≤ c ∧ c ≤ maxLen := by
  obtain ⟨A', n', c', e, hn, hnc, hcm, hc⟩ := h
  injection e with e1 e2 e3
  subst e1 e2 e3
  exact ⟨hnc, hcm⟩

theorem Own.oneC (w : World) (x : UInt8) (z : Int) (h : (x.toNat : Int) = z) : Own (w.alloc (.cells #[.int .u8 z] 5)) w.heap.size 5 (.slice (some ⟨w.heap.size, 0, none⟩) 1 1) (bvs [x]) := by subst h; exact Own.lit w _ _ 1 rfl (by unfold maxLen; omega)
/-- New bytes, as a call in a region leaves them. -/
def GB (l : List UInt8) : VPred := fun v w => ∃ A n c, v = .slice A n c ∧ Hid (n = l.length) ∧ Rd w (.slice A n c) (bvs l)
theorem stable_GB (l : List UInt8) : StableP (GB l) := fun v w w' hb ⟨A, n, c, h1, h2, h3⟩ => ⟨A, n, c, h1, h2, h3.ext hb⟩
theorem RetB.gb {w w' : World} {l : List UInt8} {e : Ending} (h : RetB w l e w') : ∃ v, e = .returned v ∧ Ext w w' ∧ GB l v w' := by
  obtain ⟨A, n, c, h1, h2, h3, h4⟩ := h
  exact ⟨_, h1, h4, A, n, c, rfl, h2, h3.rd⟩

theorem Rd.cap3 {w : World} {A : Option Addr} {n c : Nat} {l : List UInt8} (h : Rd w (.slice A n c) (bvs l)) (k c' : Nat) (hk : k ≤ n) (hkc : k ≤ c') (hc : c' ≤ c) : Rd w (.slice A k c') (bvs (l.take k)) := by
  obtain ⟨A', n', c2, e, h1, h2, h3, h4⟩ := h.take k hk
  injection e with e1 e2 e3
  subst e1 e2 e3
  exact ⟨_, _, _, rfl, h1, hkc, by omega, h4⟩

/-- A call that returns bytes and a number. -/
def RetRE (w : World) (l : List UInt8) (k : Int) (e : Ending) (w' : World) : Prop :=
  ∃ A n c, e = .returned (.tuple #[.slice A n c, .int .i64 k]) ∧ Hid (n = l.length) ∧ Rd w' (.slice A n c) (bvs l) ∧ Ext w w'
/-- A call that returns a number and bytes. -/
def RetNR (w : World) (k : Int) (l : List UInt8) (e : Ending) (w' : World) : Prop :=
  ∃ A n c, e = .returned (.tuple #[.int .i64 k, .slice A n c]) ∧ Hid (n = l.length) ∧ Rd w' (.slice A n c) (bvs l) ∧ Ext w w'
/-- A call that returns new bytes and a number. -/
def RetBE (w : World) (l : List UInt8) (k : Int) (e : Ending) (w' : World) : Prop :=
  ∃ A n c, e = .returned (.tuple #[.slice A n c, .int .i64 k]) ∧ Hid (n = l.length) ∧ Own w' w.heap.size 5 (.slice A n c) (bvs l) ∧ Ext w w'
theorem Rd.dropB {w : World} {b o n c : Nat} {l : List UInt8} (h : Rd w (.slice (some ⟨b, o, none⟩) n c) (bvs l)) (k : Nat) (hk : k ≤ n) : Rd w (.slice (some ⟨b, o + k, none⟩) (n - k) (c - k)) (bvs (l.drop k)) := by
  obtain ⟨A', n', c', e, hn, hnc, hcm, hc⟩ := h
  injection e with e1 e2 e3
  subst e1 e2 e3
  rw [bvs_length] at hn
  refine ⟨_, _, _, rfl, by rw [bvs_length, List.length_drop]; omega, by omega, by omega, fun h0 => ⟨_, _, rfl, fun j u hu => ?_⟩⟩
  obtain ⟨b', o', e, hcell⟩ := hc (by omega)
  injection e with e
  injection e with e1 e2
  subst e1 e2
  rw [bvs, List.map_drop, List.getElem?_drop] at hu
  rw [Nat.add_assoc]
  exact hcell (k + j) u hu
end Go.Proofs.YtkjplpmogfmhkaaGreatDoor
