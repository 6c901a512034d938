/- The group: its order is a prime; what a signature is good for. No program is named here. -/
import Derived.Test.YtkjplpmogfmhkaaGreatDoorGm
import Derived.Test.YtkjplpmogfmhkaaGreatDoorSha
namespace Go.Proofs.YtkjplpmogfmhkaaGreatDoor
set_option linter.unusedVariables false
set_option maxRecDepth 100000

def noDiv (q : Nat) : Nat → Nat → Bool
  | 0, s => decide (s < 2) || (q % s != 0)
  | d + 1, s => noDiv q d s && noDiv q d (s + 2 ^ d)
theorem noDiv_spec (q : Nat) : ∀ (d s : Nat), noDiv q d s = true → ∀ x, s ≤ x → x < s + 2 ^ d → 2 ≤ x → q % x ≠ 0
  | 0, s, h, x, h1, h2, h3 => by
    obtain rfl : x = s := by simp at h2; omega
    simp [noDiv] at h
    rcases h with h | h
    · omega
    · exact h
  | d + 1, s, h, x, h1, h2, h3 => by
    simp only [noDiv, Bool.and_eq_true] at h
    rw [Nat.pow_succ] at h2
    by_cases hx : x < s + 2 ^ d
    · exact noDiv_spec q d s h.1 x h1 hx h3
    · exact noDiv_spec q d (s + 2 ^ d) h.2 x (by omega) (by omega) h3
theorem order_noDiv : noDiv 1073741789 15 0 = true := by decide +kernel
theorem order_prime {d : Nat} (h2 : 2 ≤ d) (hq : d < 1073741789) : 1073741789 % d ≠ 0 := by
  by_cases h : d < 32768
  · exact noDiv_spec _ 15 0 order_noDiv d (by omega) (by simpa using h) h2
  · intro h0
    obtain ⟨c, hc⟩ := Nat.dvd_of_mod_eq_zero h0
    have hc1 : c < 32768 := by
      rcases Nat.lt_or_ge c 32768 with h3 | h3
      · exact h3
      · have := Nat.mul_le_mul (show 32768 ≤ d by omega) h3
        omega
    have hc2 : 2 ≤ c := by
      rcases Nat.lt_or_ge c 2 with h3 | h3
      · have : c = 0 ∨ c = 1 := by omega
        rcases this with rfl | rfl <;> omega
      · exact h3
    exact noDiv_spec _ 15 0 order_noDiv c (by omega) (by simpa using hc1) hc2 (by rw [hc]; exact Nat.mul_mod_left _ _)
theorem order_gcd {k : Nat} (h0 : 0 < k) (h1 : k < 1073741789) : Nat.gcd k 1073741789 = 1 := by
  have hd := Nat.gcd_dvd_left k 1073741789
  have hq := Nat.gcd_dvd_right k 1073741789
  have hle := Nat.le_of_dvd h0 hd
  have hpos := Nat.pos_of_dvd_of_pos hd h0
  generalize Nat.gcd k 1073741789 = d at *
  rcases Nat.lt_or_ge d 2 with h | h
  · omega
  · exact absurd (Nat.mod_eq_zero_of_dvd hq) (order_prime h (by omega))
theorem pwN_add (x a b : Nat) : pwN x (a + b) = pwN x a * pwN x b % 2147483579 := by
  unfold pwN; rw [Nat.pow_add, Nat.mul_mod]
theorem pwN_mul (x a b : Nat) : pwN x (a * b) = pwN (pwN x a) b := by
  unfold pwN; rw [Nat.pow_mul, ← Nat.pow_mod]
theorem pwN_one_left (b : Nat) : pwN 1 b = 1 := by simp [pwN]
theorem pwN_mod {x q : Nat} (h : pwN x q = 1) (a : Nat) : pwN x a = pwN x (a % q) := by
  conv => lhs; rw [← Nat.div_add_mod a q, pwN_add, pwN_mul, h, pwN_one_left, Nat.one_mul]
  exact Nat.mod_eq_of_lt (pwN_lt _ _)
theorem pwN_gcd {x : Nat} (a b : Nat) : pwN x a = 1 → pwN x b = 1 → pwN x (Nat.gcd a b) = 1 := by
  induction a, b using Nat.gcd.induction with
  | H0 n => intro _ h; rwa [Nat.gcd_zero_left]
  | H1 m n hm ih =>
    intro h1 h2
    rw [Nat.gcd_rec]
    refine ih ?_ h1
    rw [← pwN_mod h1]; exact h2
theorem pwN_loop (x k : Nat) (h : k < 18446744073709551616) : pwN x k = pwLoop 64 1 x k := by
  rw [pwLoop_eq _ _ _ _ h (by omega), Nat.one_mul]; rfl
theorem gen_loop : pwLoop 64 1 4 1073741789 = 1 := by decide +kernel
theorem gen_order : pwN 4 1073741789 = 1 := by rw [pwN_loop _ _ (by omega), gen_loop]
theorem pwN_oddly (x m : Nat) : pwN x (2 * m + 1) = (x * x % 2147483579) ^ m % 2147483579 * (x % 2147483579) % 2147483579 := by
  unfold pwN
  rw [Nat.pow_succ, ← sq_pow, Nat.mul_mod, ← Nat.pow_mod]
theorem gen_ne_one {k : Nat} (h0 : 0 < k) (h1 : k < 1073741789) : pwN 4 k ≠ 1 := by
  intro h
  have := pwN_gcd k 1073741789 h gen_order
  rw [order_gcd h0 h1] at this
  simp [pwN] at this
theorem pub_order (k : Nat) : pwN (pwN 4 k) 1073741789 = 1 := by
  rw [← pwN_mul, Nat.mul_comm, pwN_mul, gen_order, pwN_one_left]
theorem pwN_zero_left {q : Nat} (h : 0 < q) : pwN 0 q = 0 := by
  unfold pwN; rw [Nat.zero_pow h, Nat.zero_mod]
theorem pub_pos (k : Nat) : 0 < pwN 4 k := by
  rcases Nat.eq_zero_or_pos (pwN 4 k) with h | h
  · have := pub_order k
    rw [h, pwN_zero_left (by omega)] at this
    cases this
  · exact h
theorem pw_nat (x k : Nat) : pw (x : Int) (k : Int) = (pwN x k : Int) := by simp [pw]
theorem pub_elem {k : Int} (h0 : 1 ≤ k) (h1 : k < 1073741789) : isElem (pw 4 k) = true := by
  obtain ⟨n, rfl⟩ := Int.eq_ofNat_of_zero_le (show 0 ≤ k by omega)
  rw [show (4 : Int) = ((4 : Nat) : Int) from rfl, pw_nat]
  have a := pub_pos n
  have b := pwN_lt 4 n
  have c := gen_ne_one (k := n) (by omega) (by omega)
  have d := pub_order n
  unfold isElem
  rw [show (1073741789 : Int) = ((1073741789 : Nat) : Int) from rfl, pw_nat, d]
  simp
  omega
/-- A signature leads back to the element of its number. -/
theorem sig_back {k n e : Nat} (hk : k < 1073741789) (he : e < 1073741789) (hn : n < 1073741789) :
    pwN 4 ((n + e * k) % 1073741789) * pwN (pwN 4 k) (1073741789 - e) % 2147483579 = pwN 4 n := by
  rw [← pwN_mul, ← pwN_add, pwN_mod gen_order, pwN_mod gen_order n]
  congr 1
  have h1 : k * (1073741789 - e) + e * k = k * 1073741789 := by
    rw [Nat.mul_comm e k, ← Nat.mul_add]
    congr 1
    omega
  have h2 : ((n + e * k) % 1073741789 + k * (1073741789 - e)) % 1073741789 = (n + e * k + k * (1073741789 - e)) % 1073741789 := by
    rw [Nat.add_mod, Nat.mod_mod, ← Nat.add_mod]
  rw [h2, Nat.add_assoc, Nat.add_comm (e * k), h1, Nat.add_mul_mod_self_right]
theorem neg_order {p : Nat} (h0 : 0 < p) (h1 : p < 2147483579) (h : pwN p 1073741789 = 1) : pwN (2147483579 - p) 1073741789 = 2147483578 := by
  have sq : (2147483579 - p) * (2147483579 - p) % 2147483579 = p * p % 2147483579 := by
    obtain ⟨q, hq⟩ : ∃ q, q = 2147483579 - p := ⟨_, rfl⟩
    have e1 : q * q + p * q = 2147483579 * q := by rw [← Nat.add_mul]; congr 1; omega
    have e2 : p * p + p * q = 2147483579 * p := by rw [← Nat.mul_add, Nat.mul_comm]; congr 1; omega
    rw [← hq]
    generalize q * q = a at *
    generalize p * p = b at *
    generalize p * q = c at *
    omega
  have e : (1073741789 : Nat) = 2 * 536870894 + 1 := rfl
  rw [e, pwN_oddly] at h
  rw [e, pwN_oddly, sq]
  rw [Nat.mod_eq_of_lt (show 2147483579 - p < 2147483579 by omega)]
  rw [Nat.mod_eq_of_lt h1] at h
  generalize (p * p % 2147483579) ^ 536870894 % 2147483579 = a at *
  have e1 : a * (2147483579 - p) + a * p = a * 2147483579 := by rw [← Nat.mul_add]; congr 1; omega
  generalize a * (2147483579 - p) = x at *
  generalize a * p = y at *
  omega
theorem neg_elem {p : Int} (h0 : 0 < p) (h1 : p < 2147483579) (h : isElem p = true) : isElem (2147483579 - p) = false := by
  obtain ⟨n, rfl⟩ := Int.eq_ofNat_of_zero_le (show 0 ≤ p by omega)
  have h2 : pwN n 1073741789 = 1 := by
    unfold isElem at h
    rw [show (1073741789 : Int) = ((1073741789 : Nat) : Int) from rfl, pw_nat] at h
    simp at h
    omega
  have h3 := neg_order (by omega) (by omega) h2
  unfold isElem
  rw [show (2147483579 : Int) - (n : Int) = ((2147483579 - n : Nat) : Int) by omega, show (1073741789 : Int) = ((1073741789 : Nat) : Int) from rfl, pw_nat, h3]
  simp
end Go.Proofs.YtkjplpmogfmhkaaGreatDoor
