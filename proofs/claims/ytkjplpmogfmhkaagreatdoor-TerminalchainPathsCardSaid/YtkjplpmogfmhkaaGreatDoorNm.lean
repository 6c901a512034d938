/- Numbers of bytes: plain words. No program is named here. -/
import Derived.Test.YtkjplpmogfmhkaaGreatDoorKit
namespace Go.Proofs.YtkjplpmogfmhkaaGreatDoor
set_option linter.unusedVariables false

/-- The number that bytes stand for. -/
def num (l : List UInt8) : Int := l.foldl (fun n c => 256 * n + (c.toNat : Int)) 0
theorem num_snoc (l : List UInt8) (c : UInt8) : num (l ++ [c]) = 256 * num l + (c.toNat : Int) := by simp [num]
theorem num_step {l : List UInt8} {k : Nat} (h : k < l.length) : num (l.take (k + 1)) = 256 * num (l.take k) + byteI l k := by
  rw [List.take_succ_eq_append_getElem h, num_snoc, byteI_get h]
theorem num_bd : ∀ (k : Nat) (l : List UInt8), l.length = k → 0 ≤ num l ∧ num l < 256 ^ k
  | 0, l, h => by
    obtain rfl := List.eq_nil_of_length_eq_zero h
    decide
  | k + 1, l, h => by
    have hl : l = l.take k ++ [l[k]] := by
      rw [← List.take_succ_eq_append_getElem (by omega), List.take_of_length_le (by omega)]
    have h2 := num_bd k (l.take k) (by rw [List.length_take]; omega)
    have h3 : ((l[k].toNat : Nat) : Int) < 256 := by have := UInt8.toNat_lt l[k]; omega
    rw [hl, num_snoc, Int.pow_succ]
    generalize num (l.take k) = x at *
    generalize (256 : Int) ^ k = y at *
    omega
theorem num_bd7 {l : List UInt8} (h : l.length ≤ 7) : 0 ≤ num l ∧ num l < 72057594037927936 := by
  obtain ⟨h1, h2⟩ := num_bd _ l rfl
  refine ⟨h1, Int.lt_of_lt_of_le h2 ?_⟩
  have : ∀ k, k ≤ 7 → (256 : Int) ^ k ≤ 72057594037927936 := by decide
  exact this _ h
theorem num_lt (l : List UInt8) (k : Nat) (hk : k ≤ 6) (h : l.length ≤ 7) : 0 ≤ num (l.take k) ∧ num (l.take k) < 281474976710656 := by
  obtain ⟨h1, h2⟩ := num_bd _ (l.take k) rfl
  refine ⟨h1, Int.lt_of_lt_of_le h2 ?_⟩
  have : ∀ k, k ≤ 6 → (256 : Int) ^ k ≤ 281474976710656 := by decide
  exact this _ (by rw [List.length_take]; omega)
theorem i64_or_nat (a b : Nat) (ha : a < 9223372036854775808) (hb : b < 9223372036854775808) : bits .or .i64 (a : Int) (b : Int) = ((a ||| b : Nat) : Int) := by
  have hx : a ||| b < 2 ^ 63 := Nat.or_lt_two_pow (by omega) (by omega)
  have e : ∀ c : Nat, c < 9223372036854775808 → (BitVec.ofInt 64 (c : Int)).toNat = c := fun c hc => by
    rw [BitVec.ofInt_natCast, BitVec.toNat_ofNat]; exact Nat.mod_eq_of_lt (by omega)
  show IntKind.i64.wrap ((BitVec.ofInt 64 (a : Int) ||| BitVec.ofInt 64 (b : Int)).toNat : Int) = _
  rw [BitVec.toNat_or, e a ha, e b hb, IntKind.wrap_i64]
  omega
theorem or_low {x y : Int} (hx : 0 ≤ x) (hx2 : x < 281474976710656) (hy : 0 ≤ y) (hy2 : y < 256) : bits .or .i64 (x * 256) y = 256 * x + y := by
  obtain ⟨a, rfl⟩ := Int.eq_ofNat_of_zero_le hx
  obtain ⟨b, rfl⟩ := Int.eq_ofNat_of_zero_le hy
  have h := i64_or_nat (a * 256) b (by omega) (by omega)
  rw [show ((a * 256 : Nat) : Int) = (a : Int) * 256 by simp] at h
  rw [h, Nat.mul_comm a 256, ← Nat.two_pow_add_eq_or_of_lt (i := 8) (by omega)]
  simp
end Go.Proofs.YtkjplpmogfmhkaaGreatDoor
