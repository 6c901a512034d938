/- Laws of the walk on bytes, at this program's numbers of types. -/
import Derived.Test.YtkjplpmogfmhkaaGreatDoorProg
import Derived.Test.YtkjplpmogfmhkaaGreatDoorKit
import Derived.Deep.QuietTactic
import Derived.BigQuiet
import Derived.WalkSpells
namespace Go.Proofs.YtkjplpmogfmhkaaGreatDoor
open Go.RowKit
set_option linter.unusedVariables false

theorem elemB : Elem Tryz.prog 89 5 1 := by
  have h : (Tryz.prog.info? 5).map (fun i => (i.zero, i.size, i.bytes)) = some (some (.int .u8 0), 1, 1) := by kernel_rfl
  obtain ⟨i, h1, h2, h3, h4⟩ := info_parts h
  exact ⟨i, _, Tryz.underlying89, h1, h2, h3, h4, rfl⟩

theorem maxLen_47 {n : Nat} (h : n ≤ 140737488355328) : n ≤ maxLen := by unfold maxLen; omega

section
variable {ops : Array Oper} {rest : List Oper} {o : Oper} {a : Act} {Q : Exit → Act → World → Prop} {w w0 : World}
/-- out = append(out, src...), bytes. -/
theorem appB {B : Nat} {v src : Value} {xs ys : List UInt8} (hown : Own w B 5 v (bvs xs)) (hr : Rd w src (bvs ys)) (hbel : Below B w0 w) (hb : xs.length + ys.length ≤ 140737488355328) (hB : B ≤ w.heap.size)
    {s x : Operand} (hgd : o.guard = none) (ho : o.op = .call { callee := .builtin .append, args := #[s, x], argTypes := #[89, 89] }) (hs : a.eval s = v) (hx : a.eval x = src)
    (h : ∀ A n c w', Hid (n = xs.length + ys.length) → Own w' B 5 (.slice A n c) (bvs (xs ++ ys)) → Below B w0 w' → w.grownBy w' (rowOf v) → wpList Tryz.prog ops Q rest (a.put o.dst (.slice A n c)) w') : wpList Tryz.prog ops Q (o :: rest) a w :=
  wpList_app elemB hown hr (bvs_one _) hbel (by simpa [bvs_length] using hb) (maxLen_47 (by simpa [bvs_length] using hb)) hB hgd ho hs hx (by
    intro A c w' h1 h2 h3
    simp only [bvs_length, bvs_append] at h1 ⊢
    exact h A _ c w' (show _ = _ from rfl) h1 h2 h3)
/-- out = append([]byte(nil), src...), append([]byte{}, src...). -/
theorem appN {B : Nat} {A0 : Option Addr} {src : Value} {ys : List UInt8} (hr : Rd w src (bvs ys)) (hbel : Below B w0 w) (hb : ys.length ≤ 140737488355328) (hB : B ≤ w.heap.size)
    {s x : Operand} (hgd : o.guard = none) (ho : o.op = .call { callee := .builtin .append, args := #[s, x], argTypes := #[89, 89] }) (hs : a.eval s = .slice A0 0 0) (hx : a.eval x = src)
    (h : ∀ A n c w', Hid (n = ys.length) → Own w' B 5 (.slice A n c) (bvs ys) → Below B w0 w' → w.grownBy w' none → wpList Tryz.prog ops Q rest (a.put o.dst (.slice A n c)) w') : wpList Tryz.prog ops Q (o :: rest) a w :=
  appB (xs := []) (Own.empty w B _ A0) hr hbel (by simpa using hb) hB hgd ho hs hx (by
    intro A n c w' hn h1 h2 h3
    simp only [List.nil_append] at h1
    refine h A n c w' (show _ = _ by have := hn.out; simpa using this) h1 h2 ?_
    cases A0 <;> exact h3)
end
theorem nilB (w : World) (B : Nat) : Own w B 5 (.slice none 0 0) (bvs []) := Own.nil_ _ _ _
theorem emptyB (w : World) (B : Nat) (A : Option Addr) : Own w B 5 (.slice A 0 0) (bvs []) := Own.empty _ _ _ _
/-- The slice of one byte that append(out, b) makes. -/
theorem Rd.one (w : World) (x : UInt8) : Rd (w.alloc (.cells #[.int .u8 (x.toNat : Int)] 5)) (.slice (some ⟨w.heap.size, 0, none⟩) 1 1) (bvs [x]) := Rd.lit w _ _ 1 rfl (by unfold maxLen; omega)
theorem Rd.oneZ (w : World) (z : Int) : Rd (w.alloc (.cells #[.int .u8 (z % 256)] 5)) (.slice (some ⟨w.heap.size, 0, none⟩) 1 1) (bvs [u8 z]) := by rw [← u8_val]; exact Rd.one w _
end Go.Proofs.YtkjplpmogfmhkaaGreatDoor
