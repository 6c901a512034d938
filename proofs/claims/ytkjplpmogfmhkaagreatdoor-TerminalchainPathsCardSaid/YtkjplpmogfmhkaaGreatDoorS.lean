/- The plain words of the digest: padding, bytes of numbers. No program is named here. -/
import Derived.Test.YtkjplpmogfmhkaaGreatDoorKit
namespace Go.Proofs.YtkjplpmogfmhkaaGreatDoor
set_option linter.unusedVariables false

/-- How many zeros stand in the padding of n bytes. -/
def zeros (n : Nat) : Nat := (119 - n % 64) % 64
theorem zeros_lt (n : Nat) : zeros n < 64 := by unfold zeros; omega
theorem zeros_hit {n k : Nat} (h : k ≤ zeros n) : (n + 1 + k) % 64 = 56 ↔ k = zeros n := by unfold zeros at *; omega
/-- Eight bytes of a number. -/
def be8 (n : Int) : List UInt8 := (List.range 8).map fun k => u8 (n / 2 ^ (8 * (7 - k)))
theorem be8_length (n : Int) : (be8 n).length = 8 := by simp [be8]
theorem be8_step (n : Int) {k : Nat} (h : k < 8) : (be8 n).take (k + 1) = (be8 n).take k ++ [u8 (n / 2 ^ (8 * (7 - k)))] := by
  rw [List.take_succ_eq_append_getElem (by rw [be8_length]; exact h)]
  simp [be8]
/-- Bytes with their padding. -/
def pad (l : List UInt8) : List UInt8 := l ++ [128] ++ List.replicate (zeros l.length) 0 ++ be8 (8 * (l.length : Int))
theorem pad_length (l : List UInt8) : (pad l).length = l.length + 1 + zeros l.length + 8 := by simp [pad, be8_length]; omega
theorem pad_mod (l : List UInt8) : (pad l).length % 64 = 0 := by rw [pad_length]; unfold zeros; omega
theorem rep_snoc (l : List UInt8) (k : Nat) : l ++ List.replicate k 0 ++ [0] = l ++ List.replicate (k + 1) (0 : UInt8) := by
  rw [List.append_assoc, ← List.replicate_succ']
theorem be4_be8 (n : Int) : be4 (n / 4294967296) ++ be4 (n % 4294967296) = be8 n := by
  have hk : ∀ a b : Int, a % 256 = b % 256 → u8 a = u8 b := fun a b h => by unfold u8; rw [h]
  simp only [be4, be8, List.range, List.range.loop, List.map_cons, List.map_nil, List.cons_append, List.nil_append, List.cons.injEq, and_true]
  refine ⟨?_, ?_, ?_, ?_, ?_, ?_, ?_, ?_⟩ <;> (apply hk; simp only [Nat.reduceSub, Nat.reduceMul, Int.reducePow]; try omega)
end Go.Proofs.YtkjplpmogfmhkaaGreatDoor
