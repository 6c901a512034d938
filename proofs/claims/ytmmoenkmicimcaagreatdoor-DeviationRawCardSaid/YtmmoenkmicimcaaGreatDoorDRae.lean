/- Parts Gm Ga of the proof. -/
import Derived.Test.YtmmoenkmicimcaaGreatDoorDRaa
import Derived.Lib.BitFns
namespace Go.Proofs.YtmmoenkmicimcaaGreatDoor
set_option linter.unusedVariables false
/-- A power modulo the prime. -/
def pwN (x k : Nat) : Nat := x ^ k % 2147483579
def pw (x k : Int) : Int := ((pwN x.toNat k.toNat : Nat) : Int)
theorem pwN_lt (x k : Nat) : pwN x k < 2147483579 := Nat.mod_lt _ (by omega)
theorem pw_lo (x k : Int) : 0 ≤ pw x k := by unfold pw; omega
theorem pw_hi (x k : Int) : pw x k < 2147483579 := by have := pwN_lt x.toNat k.toNat; unfold pw; omega
theorem mod_core (a b k m : Nat) : (a % m) * (b % m) ^ k % m = a * b ^ k % m := by
  rw [Nat.mul_mod, Nat.mod_mod, ← Nat.pow_mod, ← Nat.mul_mod]
theorem mul_sq {a b : Int} (a0 : 0 ≤ a) (a1 : a < 2147483579) (b0 : 0 ≤ b) (b1 : b < 2147483579) : 0 ≤ a * b ∧ a * b < 4611686018427387904 := by
  have h := Int.mul_le_mul (show a ≤ 2147483578 by omega) (show b ≤ 2147483578 by omega) b0 (show (0 : Int) ≤ 2147483578 by omega)
  have h2 := Int.mul_nonneg a0 b0
  omega
/-- Where a loop that squares stands: p times x to the k is what is sought. -/
def PInv (x0 k0 p x k : Int) : Prop := 0 ≤ p ∧ p < 2147483579 ∧ 0 ≤ x ∧ x < 2147483579 ∧ 0 ≤ k ∧ p.toNat * x.toNat ^ k.toNat % 2147483579 = x0.toNat ^ k0.toNat % 2147483579
theorem pinv_start {x k : Int} (h0 : 0 ≤ x) (h1 : x < 2147483579) (hk : 0 ≤ k) : PInv x k 1 x k := ⟨by omega, by omega, h0, h1, hk, by simp⟩
theorem toNat_mod_mul {a b : Int} (ha : 0 ≤ a) (hb : 0 ≤ b) : (a * b % 2147483579).toNat = a.toNat * b.toNat % 2147483579 := by
  obtain ⟨m, rfl⟩ := Int.eq_ofNat_of_zero_le ha
  obtain ⟨n, rfl⟩ := Int.eq_ofNat_of_zero_le hb
  rw [← Int.natCast_mul, Int.toNat_natCast, Int.toNat_natCast]
  have : ((m * n : Nat) : Int) % 2147483579 = ((m * n % 2147483579 : Nat) : Int) := by simp
  rw [this, Int.toNat_natCast]
theorem sq_pow (x k : Nat) : (x * x) ^ k = x ^ (2 * k) := by rw [Nat.pow_mul, Nat.pow_two]
theorem mul_bd {a b : Int} : 0 ≤ a * b % 2147483579 ∧ a * b % 2147483579 < 2147483579 := ⟨Int.emod_nonneg _ (by omega), Int.emod_lt_of_pos _ (by omega)⟩
theorem pinv_even {x0 k0 p x k : Int} (h : PInv x0 k0 p x k) (hk : k % 2 = 0) : PInv x0 k0 p (x * x % 2147483579) (k / 2) := by
  obtain ⟨h1, h2, h3, h4, h5, h6⟩ := h
  refine ⟨h1, h2, mul_bd.1, mul_bd.2, by omega, ?_⟩
  rw [← h6, toNat_mod_mul h3 h3]
  have e : k.toNat = 2 * (k / 2).toNat := by omega
  conv => rhs; rw [e, ← sq_pow]
  have := mod_core p.toNat (x.toNat * x.toNat) (k / 2).toNat 2147483579
  rw [← this]
  have hp : p.toNat % 2147483579 = p.toNat := Nat.mod_eq_of_lt (by omega)
  rw [hp]
theorem pinv_odd {x0 k0 p x k : Int} (h : PInv x0 k0 p x k) (hk : k % 2 = 1) : PInv x0 k0 (p * x % 2147483579) (x * x % 2147483579) (k / 2) := by
  obtain ⟨h1, h2, h3, h4, h5, h6⟩ := h
  refine ⟨mul_bd.1, mul_bd.2, mul_bd.1, mul_bd.2, by omega, ?_⟩
  rw [← h6, toNat_mod_mul h3 h3, toNat_mod_mul h1 h3, mod_core]
  have e : k.toNat = 2 * (k / 2).toNat + 1 := by omega
  conv => rhs; rw [e, Nat.pow_succ, ← sq_pow]
  rw [Nat.mul_assoc, Nat.mul_comm x.toNat]
theorem pinv_end {x0 k0 p x k : Int} (h : PInv x0 k0 p x k) (hk : k = 0) : p = pw x0 k0 := by
  obtain ⟨h1, h2, h3, h4, h5, h6⟩ := h
  subst hk
  simp only [Int.toNat_zero, Nat.pow_zero, Nat.mul_one] at h6
  rw [Nat.mod_eq_of_lt (by omega)] at h6
  unfold pw pwN
  omega
theorem bitLenAux_bd : ∀ f x : Nat, x < 2 ^ f → x < 2 ^ Lib.bitLenAux f x
  | 0, x, h => by simpa [Lib.bitLenAux] using h
  | f + 1, x, h => by
    unfold Lib.bitLenAux
    split
    · subst x; simp
    · have := bitLenAux_bd f (x / 2) (by rw [Nat.pow_succ] at h; omega)
      rw [Nat.pow_add, Nat.pow_one]
      omega
theorem bitLen_bd {x : Nat} (h : x < 18446744073709551616) : x / 2 ^ Lib.bitLen x = 0 := Nat.div_eq_of_lt (bitLenAux_bd 64 x h)
theorem and_one {y : Int} (h0 : 0 ≤ y) (h1 : y < 9223372036854775808) : bits .and .i64 y 1 = y % 2 := by
  obtain ⟨n, rfl⟩ := Int.eq_ofNat_of_zero_le h0
  have e : (BitVec.ofInt 64 (n : Int)).toNat = n := by
    rw [BitVec.ofInt_natCast, BitVec.toNat_ofNat]; exact Nat.mod_eq_of_lt (by omega)
  show IntKind.i64.wrap ((BitVec.ofInt 64 (n : Int) &&& BitVec.ofInt 64 (1 : Int)).toNat : Int) = _
  rw [BitVec.toNat_and, e, show (BitVec.ofInt 64 (1 : Int)).toNat = 1 from rfl, Nat.and_one_is_mod, IntKind.wrap_i64]
  omega
theorem div_pow_bd {k : Int} (h : 0 ≤ k) (j : Nat) : 0 ≤ k / 2 ^ j ∧ k / 2 ^ j ≤ k :=
  ⟨Int.ediv_nonneg h (Int.le_of_lt (Int.pow_pos (by omega))), Int.ediv_le_self _ h⟩
theorem half_pow (k : Int) (h : 0 ≤ k) (j : Nat) : k / 2 ^ j / 2 = k / 2 ^ (j + 1) := by
  obtain ⟨n, rfl⟩ := Int.eq_ofNat_of_zero_le h
  have h2 : n / 2 ^ j / 2 = n / 2 ^ (j + 1) := by rw [Nat.pow_succ, Nat.div_div_eq_div_mul]
  exact_mod_cast congrArg (fun x : Nat => (x : Int)) h2
theorem bitLen_end {k : Int} (h0 : 0 ≤ k) (h1 : k < 9223372036854775808) : k / 2 ^ Lib.bitLen k.toNat = 0 := by
  obtain ⟨n, rfl⟩ := Int.eq_ofNat_of_zero_le h0
  have h := bitLen_bd (x := n) (by omega)
  rw [Int.toNat_natCast]
  exact_mod_cast congrArg (fun x : Nat => (x : Int)) h
theorem bitLenAux_le : ∀ f x : Nat, Lib.bitLenAux f x ≤ f
  | 0, x => by simp [Lib.bitLenAux]
  | f + 1, x => by
    unfold Lib.bitLenAux
    split
    · omega
    · have := bitLenAux_le f (x / 2); omega
theorem bitLen_le (x : Nat) : Lib.bitLen x ≤ 64 := bitLenAux_le 64 x
/-- Is a number an element, by the test of the code. -/
def isElem (x : Int) : Bool := decide (0 < x) && decide (x < 2147483579) && (x != 1) && (pw x 1073741789 == 1)
/-- By squaring, to be reckoned. -/
def pwLoop : Nat → Nat → Nat → Nat → Nat
  | 0, p, _, _ => p
  | f + 1, p, x, k => if k = 0 then p else pwLoop f (if k % 2 = 1 then p * x % 2147483579 else p) (x * x % 2147483579) (k / 2)
theorem pwLoop_eq : ∀ (f p x k : Nat), k < 2 ^ f → p < 2147483579 → pwLoop f p x k = p * x ^ k % 2147483579
  | 0, p, x, k, hk, hp => by
    obtain rfl : k = 0 := by simpa using hk
    simp [pwLoop, Nat.mod_eq_of_lt hp]
  | f + 1, p, x, k, hk, hp => by
    unfold pwLoop
    split
    · subst k; simp [Nat.mod_eq_of_lt hp]
    · have h2 : k / 2 < 2 ^ f := by rw [Nat.pow_succ] at hk; omega
      split
      · rename_i hodd
        rw [pwLoop_eq f _ _ _ h2 (Nat.mod_lt _ (by omega)), mod_core, sq_pow, Nat.mul_assoc, Nat.mul_comm x, ← Nat.pow_succ]
        congr 3
        omega
      · rename_i heven
        rw [pwLoop_eq f _ _ _ h2 hp]
        have := mod_core p (x * x) (k / 2) 2147483579
        rw [Nat.mod_eq_of_lt hp] at this
        rw [this, sq_pow]
        congr 3
        omega
end Go.Proofs.YtmmoenkmicimcaaGreatDoor
namespace Go.Proofs.YtmmoenkmicimcaaGreatDoor
set_option linter.unusedVariables false
set_option maxRecDepth 100000
def noDiv (q : Nat) : Nat → Nat → Bool
  | 0, s => decide (s < 2) || (q % s != 0)
  | d + 1, s => noDiv q d s && noDiv q d (s + 2 ^ d)
theorem noDiv_spec (q : Nat) : ∀ (d s : Nat), noDiv q d s = true → ∀ x, s ≤ x → x < s + 2 ^ d → 2 ≤ x → q % x ≠ 0
  | 0, s, h, x, h1, h2, h3 => by
    obtain rfl : x = s := by simp at h2; omega
    simp [noDiv] at h
    rcases h with h | h
    · omega
    · exact h
  | d + 1, s, h, x, h1, h2, h3 => by
    simp only [noDiv, Bool.and_eq_true] at h
    rw [Nat.pow_succ] at h2
    by_cases hx : x < s + 2 ^ d
    · exact noDiv_spec q d s h.1 x h1 hx h3
    · exact noDiv_spec q d (s + 2 ^ d) h.2 x (by omega) (by omega) h3
theorem order_noDiv : noDiv 1073741789 15 0 = true := by decide +kernel
theorem order_prime {d : Nat} (h2 : 2 ≤ d) (hq : d < 1073741789) : 1073741789 % d ≠ 0 := by
  by_cases h : d < 32768
  · exact noDiv_spec _ 15 0 order_noDiv d (by omega) (by simpa using h) h2
  · intro h0
    obtain ⟨c, hc⟩ := Nat.dvd_of_mod_eq_zero h0
    have hc1 : c < 32768 := by
      rcases Nat.lt_or_ge c 32768 with h3 | h3
      · exact h3
      · have := Nat.mul_le_mul (show 32768 ≤ d by omega) h3
        omega
    have hc2 : 2 ≤ c := by
      rcases Nat.lt_or_ge c 2 with h3 | h3
      · have : c = 0 ∨ c = 1 := by omega
        rcases this with rfl | rfl <;> omega
      · exact h3
    exact noDiv_spec _ 15 0 order_noDiv c (by omega) (by simpa using hc1) hc2 (by rw [hc]; exact Nat.mul_mod_left _ _)
theorem order_gcd {k : Nat} (h0 : 0 < k) (h1 : k < 1073741789) : Nat.gcd k 1073741789 = 1 := by
  have hd := Nat.gcd_dvd_left k 1073741789
  have hq := Nat.gcd_dvd_right k 1073741789
  have hle := Nat.le_of_dvd h0 hd
  have hpos := Nat.pos_of_dvd_of_pos hd h0
  generalize Nat.gcd k 1073741789 = d at *
  rcases Nat.lt_or_ge d 2 with h | h
  · omega
  · exact absurd (Nat.mod_eq_zero_of_dvd hq) (order_prime h (by omega))
theorem pwN_add (x a b : Nat) : pwN x (a + b) = pwN x a * pwN x b % 2147483579 := by
  unfold pwN; rw [Nat.pow_add, Nat.mul_mod]
theorem pwN_mul (x a b : Nat) : pwN x (a * b) = pwN (pwN x a) b := by
  unfold pwN; rw [Nat.pow_mul, ← Nat.pow_mod]
theorem pwN_one_left (b : Nat) : pwN 1 b = 1 := by simp [pwN]
theorem pwN_mod {x q : Nat} (h : pwN x q = 1) (a : Nat) : pwN x a = pwN x (a % q) := by
  conv => lhs; rw [← Nat.div_add_mod a q, pwN_add, pwN_mul, h, pwN_one_left, Nat.one_mul]
  exact Nat.mod_eq_of_lt (pwN_lt _ _)
theorem pwN_gcd {x : Nat} (a b : Nat) : pwN x a = 1 → pwN x b = 1 → pwN x (Nat.gcd a b) = 1 := by
  induction a, b using Nat.gcd.induction with
  | H0 n => intro _ h; rwa [Nat.gcd_zero_left]
  | H1 m n hm ih =>
    intro h1 h2
    rw [Nat.gcd_rec]
    refine ih ?_ h1
    rw [← pwN_mod h1]; exact h2
theorem pwN_loop (x k : Nat) (h : k < 18446744073709551616) : pwN x k = pwLoop 64 1 x k := by
  rw [pwLoop_eq _ _ _ _ h (by omega), Nat.one_mul]; rfl
theorem gen_loop : pwLoop 64 1 4 1073741789 = 1 := by decide +kernel
theorem gen_order : pwN 4 1073741789 = 1 := by rw [pwN_loop _ _ (by omega), gen_loop]
theorem gen_ne_one {k : Nat} (h0 : 0 < k) (h1 : k < 1073741789) : pwN 4 k ≠ 1 := by
  intro h
  have := pwN_gcd k 1073741789 h gen_order
  rw [order_gcd h0 h1] at this
  simp [pwN] at this
theorem pub_order (k : Nat) : pwN (pwN 4 k) 1073741789 = 1 := by
  rw [← pwN_mul, Nat.mul_comm, pwN_mul, gen_order, pwN_one_left]
theorem pwN_zero_left {q : Nat} (h : 0 < q) : pwN 0 q = 0 := by
  unfold pwN; rw [Nat.zero_pow h, Nat.zero_mod]
theorem pub_pos (k : Nat) : 0 < pwN 4 k := by
  rcases Nat.eq_zero_or_pos (pwN 4 k) with h | h
  · have := pub_order k
    rw [h, pwN_zero_left (by omega)] at this
    cases this
  · exact h
theorem pw_nat (x k : Nat) : pw (x : Int) (k : Int) = (pwN x k : Int) := by simp [pw]
theorem pub_elem {k : Int} (h0 : 1 ≤ k) (h1 : k < 1073741789) : isElem (pw 4 k) = true := by
  obtain ⟨n, rfl⟩ := Int.eq_ofNat_of_zero_le (show 0 ≤ k by omega)
  rw [show (4 : Int) = ((4 : Nat) : Int) from rfl, pw_nat]
  have a := pub_pos n
  have b := pwN_lt 4 n
  have c := gen_ne_one (k := n) (by omega) (by omega)
  have d := pub_order n
  unfold isElem
  rw [show (1073741789 : Int) = ((1073741789 : Nat) : Int) from rfl, pw_nat, d]
  simp
  omega
/-- A signature leads back to the element of its number. -/
theorem sig_back {k n e : Nat} (hk : k < 1073741789) (he : e < 1073741789) (hn : n < 1073741789) :
    pwN 4 ((n + e * k) % 1073741789) * pwN (pwN 4 k) (1073741789 - e) % 2147483579 = pwN 4 n := by
  rw [← pwN_mul, ← pwN_add, pwN_mod gen_order, pwN_mod gen_order n]
  congr 1
  have h1 : k * (1073741789 - e) + e * k = k * 1073741789 := by
    rw [Nat.mul_comm e k, ← Nat.mul_add]
    congr 1
    omega
  have h2 : ((n + e * k) % 1073741789 + k * (1073741789 - e)) % 1073741789 = (n + e * k + k * (1073741789 - e)) % 1073741789 := by
    rw [Nat.add_mod, Nat.mod_mod, ← Nat.add_mod]
  rw [h2, Nat.add_assoc, Nat.add_comm (e * k), h1, Nat.add_mul_mod_self_right]
end Go.Proofs.YtmmoenkmicimcaaGreatDoor
