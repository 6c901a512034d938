/- Parts Gm of the proof. -/
import Derived.Test.YthbpdhanljpigaaGreatDoorVaa
import Derived.Lib.BitFns
namespace Go.Proofs.YthbpdhanljpigaaGreatDoor
set_option linter.unusedVariables false
/-- A power modulo the prime. -/
def pwN (x k : Nat) : Nat := x ^ k % 2147483579
def pw (x k : Int) : Int := ((pwN x.toNat k.toNat : Nat) : Int)
theorem pwN_lt (x k : Nat) : pwN x k < 2147483579 := Nat.mod_lt _ (by omega)
theorem pw_lo (x k : Int) : 0 ≤ pw x k := by unfold pw; omega
theorem pw_hi (x k : Int) : pw x k < 2147483579 := by have := pwN_lt x.toNat k.toNat; unfold pw; omega
theorem mod_core (a b k m : Nat) : (a % m) * (b % m) ^ k % m = a * b ^ k % m := by
  rw [Nat.mul_mod, Nat.mod_mod, ← Nat.pow_mod, ← Nat.mul_mod]
theorem mul_sq {a b : Int} (a0 : 0 ≤ a) (a1 : a < 2147483579) (b0 : 0 ≤ b) (b1 : b < 2147483579) : 0 ≤ a * b ∧ a * b < 4611686018427387904 := by
  have h := Int.mul_le_mul (show a ≤ 2147483578 by omega) (show b ≤ 2147483578 by omega) b0 (show (0 : Int) ≤ 2147483578 by omega)
  have h2 := Int.mul_nonneg a0 b0
  omega
/-- Where a loop that squares stands: p times x to the k is what is sought. -/
def PInv (x0 k0 p x k : Int) : Prop := 0 ≤ p ∧ p < 2147483579 ∧ 0 ≤ x ∧ x < 2147483579 ∧ 0 ≤ k ∧ p.toNat * x.toNat ^ k.toNat % 2147483579 = x0.toNat ^ k0.toNat % 2147483579
theorem pinv_start {x k : Int} (h0 : 0 ≤ x) (h1 : x < 2147483579) (hk : 0 ≤ k) : PInv x k 1 x k := ⟨by omega, by omega, h0, h1, hk, by simp⟩
theorem toNat_mod_mul {a b : Int} (ha : 0 ≤ a) (hb : 0 ≤ b) : (a * b % 2147483579).toNat = a.toNat * b.toNat % 2147483579 := by
  obtain ⟨m, rfl⟩ := Int.eq_ofNat_of_zero_le ha
  obtain ⟨n, rfl⟩ := Int.eq_ofNat_of_zero_le hb
  rw [← Int.natCast_mul, Int.toNat_natCast, Int.toNat_natCast]
  have : ((m * n : Nat) : Int) % 2147483579 = ((m * n % 2147483579 : Nat) : Int) := by simp
  rw [this, Int.toNat_natCast]
theorem sq_pow (x k : Nat) : (x * x) ^ k = x ^ (2 * k) := by rw [Nat.pow_mul, Nat.pow_two]
theorem mul_bd {a b : Int} : 0 ≤ a * b % 2147483579 ∧ a * b % 2147483579 < 2147483579 := ⟨Int.emod_nonneg _ (by omega), Int.emod_lt_of_pos _ (by omega)⟩
theorem pinv_even {x0 k0 p x k : Int} (h : PInv x0 k0 p x k) (hk : k % 2 = 0) : PInv x0 k0 p (x * x % 2147483579) (k / 2) := by
  obtain ⟨h1, h2, h3, h4, h5, h6⟩ := h
  refine ⟨h1, h2, mul_bd.1, mul_bd.2, by omega, ?_⟩
  rw [← h6, toNat_mod_mul h3 h3]
  have e : k.toNat = 2 * (k / 2).toNat := by omega
  conv => rhs; rw [e, ← sq_pow]
  have := mod_core p.toNat (x.toNat * x.toNat) (k / 2).toNat 2147483579
  rw [← this]
  have hp : p.toNat % 2147483579 = p.toNat := Nat.mod_eq_of_lt (by omega)
  rw [hp]
theorem pinv_odd {x0 k0 p x k : Int} (h : PInv x0 k0 p x k) (hk : k % 2 = 1) : PInv x0 k0 (p * x % 2147483579) (x * x % 2147483579) (k / 2) := by
  obtain ⟨h1, h2, h3, h4, h5, h6⟩ := h
  refine ⟨mul_bd.1, mul_bd.2, mul_bd.1, mul_bd.2, by omega, ?_⟩
  rw [← h6, toNat_mod_mul h3 h3, toNat_mod_mul h1 h3, mod_core]
  have e : k.toNat = 2 * (k / 2).toNat + 1 := by omega
  conv => rhs; rw [e, Nat.pow_succ, ← sq_pow]
  rw [Nat.mul_assoc, Nat.mul_comm x.toNat]
theorem pinv_end {x0 k0 p x k : Int} (h : PInv x0 k0 p x k) (hk : k = 0) : p = pw x0 k0 := by
  obtain ⟨h1, h2, h3, h4, h5, h6⟩ := h
  subst hk
  simp only [Int.toNat_zero, Nat.pow_zero, Nat.mul_one] at h6
  rw [Nat.mod_eq_of_lt (by omega)] at h6
  unfold pw pwN
  omega
theorem bitLenAux_bd : ∀ f x : Nat, x < 2 ^ f → x < 2 ^ Lib.bitLenAux f x
  | 0, x, h => by simpa [Lib.bitLenAux] using h
  | f + 1, x, h => by
    unfold Lib.bitLenAux
    split
    · subst x; simp
    · have := bitLenAux_bd f (x / 2) (by rw [Nat.pow_succ] at h; omega)
      rw [Nat.pow_add, Nat.pow_one]
      omega
theorem bitLen_bd {x : Nat} (h : x < 18446744073709551616) : x / 2 ^ Lib.bitLen x = 0 := Nat.div_eq_of_lt (bitLenAux_bd 64 x h)
theorem and_one {y : Int} (h0 : 0 ≤ y) (h1 : y < 9223372036854775808) : bits .and .i64 y 1 = y % 2 := by
  obtain ⟨n, rfl⟩ := Int.eq_ofNat_of_zero_le h0
  have e : (BitVec.ofInt 64 (n : Int)).toNat = n := by
    rw [BitVec.ofInt_natCast, BitVec.toNat_ofNat]; exact Nat.mod_eq_of_lt (by omega)
  show IntKind.i64.wrap ((BitVec.ofInt 64 (n : Int) &&& BitVec.ofInt 64 (1 : Int)).toNat : Int) = _
  rw [BitVec.toNat_and, e, show (BitVec.ofInt 64 (1 : Int)).toNat = 1 from rfl, Nat.and_one_is_mod, IntKind.wrap_i64]
  omega
theorem div_pow_bd {k : Int} (h : 0 ≤ k) (j : Nat) : 0 ≤ k / 2 ^ j ∧ k / 2 ^ j ≤ k :=
  ⟨Int.ediv_nonneg h (Int.le_of_lt (Int.pow_pos (by omega))), Int.ediv_le_self _ h⟩
theorem half_pow (k : Int) (h : 0 ≤ k) (j : Nat) : k / 2 ^ j / 2 = k / 2 ^ (j + 1) := by
  obtain ⟨n, rfl⟩ := Int.eq_ofNat_of_zero_le h
  have h2 : n / 2 ^ j / 2 = n / 2 ^ (j + 1) := by rw [Nat.pow_succ, Nat.div_div_eq_div_mul]
  exact_mod_cast congrArg (fun x : Nat => (x : Int)) h2
theorem bitLen_end {k : Int} (h0 : 0 ≤ k) (h1 : k < 9223372036854775808) : k / 2 ^ Lib.bitLen k.toNat = 0 := by
  obtain ⟨n, rfl⟩ := Int.eq_ofNat_of_zero_le h0
  have h := bitLen_bd (x := n) (by omega)
  rw [Int.toNat_natCast]
  exact_mod_cast congrArg (fun x : Nat => (x : Int)) h
theorem bitLenAux_le : ∀ f x : Nat, Lib.bitLenAux f x ≤ f
  | 0, x => by simp [Lib.bitLenAux]
  | f + 1, x => by
    unfold Lib.bitLenAux
    split
    · omega
    · have := bitLenAux_le f (x / 2); omega
theorem bitLen_le (x : Nat) : Lib.bitLen x ≤ 64 := bitLenAux_le 64 x
end Go.Proofs.YthbpdhanljpigaaGreatDoor
