/- Parts Gr Gs of the proof. -/
import Derived.Test.YthbpdhanljpigaaGreatDoorVaf
import Derived.Test.YthbpdhanljpigaaGreatDoorVae
import Derived.Test.YthbpdhanljpigaaGreatDoorVah
namespace Go.Proofs.YthbpdhanljpigaaGreatDoor
open Go.RowKit
set_option linter.unusedVariables false
set_option maxRecDepth 100000
set_option maxHeartbeats 400000 in
theorem power_any (x k : Int) (w : World) (h0 : 0 ≤ x) (h1 : x < 2147483579) (k0 : 0 ≤ k) (k1 : k < 9223372036854775808) :
    Calls Tryz.prog 129 #[.int .i64 x, .int .i64 k] w fun e w' => e = .returned (.int .i64 (pw x k)) ∧ w = w' := by
  have hs := pinv_start h0 h1 k0
  obtain ⟨x0, hx0⟩ : ∃ y, y = x := ⟨_, rfl⟩
  rw [show pw x k = pw x0 k by rw [hx0]]
  rw [show PInv x k 1 x k = PInv x0 k 1 x k by rw [hx0]] at hs
  clear hx0
  go_enter Tryz.func129, Tryz.ntmps129
  go_wp2_with (go_at_call 159; refine (bits_Len _ _ (by omega) (by omega)).mono ?_; rintro e w' ⟨rfl, rfl⟩)
  have hlen := bitLen_le k.toNat
  obtain ⟨m, hm⟩ : ∃ m, m = Lib.bitLen k.toNat := ⟨_, rfl⟩
  rw [← hm] at hlen
  rw [← hm]
  have HM := Lib.hid hm
  have HS := Lib.hid hs
  clear hm hs
  go_loop [0, 5, 6, 10] (fun x p _ i => ∃ (x' p' : Int) (j : Nat), x = .int .i64 x' ∧ p = .int .i64 p' ∧ i = .int .i64 (j : Int) ∧ j ≤ m ∧ PInv x0 k p' x' (k / 2 ^ j)) (fun _ _ _ i => m - (intOf i).toNat)
  case atStart => exact ⟨_, _, 0, rfl, rfl, rfl, Nat.zero_le _, by simpa using HS.out⟩
  case round =>
    obtain ⟨a, p, j, rfl, rfl, rfl, hj, hp⟩ := hrel
    have HP := Lib.hid hp
    by_cases hlt : j < m
    · obtain ⟨q1, q2, q3, q4, q5, _⟩ := hp
      obtain ⟨m2, m1⟩ := mul_sq q1 q2 q3 q4
      obtain ⟨m4, m3⟩ := mul_sq q3 q4 q3 q4
      obtain ⟨d0, d1⟩ := div_pow_bd k0 j
      have HH := Lib.hid (half_pow k k0 j)
      have ha := and_one d0 (by omega)
      by_cases hodd : (k / 2 ^ j) % 2 = 1
      · have t1 : (bits .and .i64 (k / 2 ^ j) 1 == 1) = true := by rw [ha, hodd]; rfl
        have HO := Lib.hid (pinv_odd HP.out hodd)
        clear hodd ha d0 d1
        go_wp2
        go_round
        case rel => exact ⟨_, _, j + 1, rfl, rfl, by go_num, by omega, by rw [← HH.out]; exact HO.out⟩
        case measure => simp [intOf]; omega
      · have hev : (k / 2 ^ j) % 2 = 0 := by omega
        have t1 : (bits .and .i64 (k / 2 ^ j) 1 == 1) = false := by rw [ha, hev]; rfl
        have HO := Lib.hid (pinv_even HP.out hev)
        clear hodd hev ha d0 d1
        go_wp2
        go_round
        case rel => exact ⟨_, _, j + 1, rfl, rfl, by go_num, by omega, by rw [← HH.out]; exact HO.out⟩
        case measure => simp [intOf]; omega
    · obtain rfl : j = m := by omega
      have HB := Lib.hid (pinv_end HP.out (by rw [HM.out]; exact bitLen_end k0 k1))
      clear hp
      go_wp2
      go_ret
      exact ⟨by rw [← HB.out]; rfl, rfl⟩
end Go.Proofs.YthbpdhanljpigaaGreatDoor
namespace Go.Proofs.YthbpdhanljpigaaGreatDoor
open Go.RowKit
set_option linter.unusedVariables false
set_option maxRecDepth 100000
def inB (lo hi x : Int) : Bool := decide (lo ≤ x ∧ x < hi)
theorem inB_true {lo hi x : Int} (h : inB lo hi x = true) : lo ≤ x ∧ x < hi := of_decide_eq_true h
theorem inB_yes {lo hi x : Int} (h0 : lo ≤ x) (h1 : x < hi) : inB lo hi x = true := decide_eq_true ⟨h0, h1⟩
theorem inB_no {lo hi x : Int} (h : ¬ (lo ≤ x ∧ x < hi)) : inB lo hi x = false := decide_eq_false h
theorem not_true {b : Bool} (h : ¬ b = true) : b = false := by simpa using h

theorem residue_any (x : Int) (w : World) : Calls Tryz.prog 128 #[.int .i64 x] w fun e w' => e = .returned (.bool (inB 1 2147483579 x)) ∧ w = w' := by
  by_cases h1 : 1 ≤ x
  · by_cases h2 : x < 2147483579
    · rw [inB_yes h1 h2]
      go_enter Tryz.func128, Tryz.ntmps128
      go_wp2
      go_ret
      exact ⟨rfl, rfl⟩
    · rw [inB_no (fun h => h2 h.2)]
      go_enter Tryz.func128, Tryz.ntmps128
      go_wp2
      go_ret
      exact ⟨rfl, rfl⟩
  · rw [inB_no (fun h => h1 h.1)]
    go_enter Tryz.func128, Tryz.ntmps128
    go_wp2
    go_ret
    exact ⟨rfl, rfl⟩

theorem gsecret_any (x : Int) (w : World) : Calls Tryz.prog 151 #[.int .i64 x] w fun e w' => e = .returned (.bool (inB 1 1073741789 x)) ∧ w = w' := by
  by_cases h1 : 1 ≤ x
  · by_cases h2 : x < 1073741789
    · rw [inB_yes h1 h2]
      go_enter Tryz.func151, Tryz.ntmps151
      go_wp2
      go_ret
      exact ⟨rfl, rfl⟩
    · rw [inB_no (fun h => h2 h.2)]
      go_enter Tryz.func151, Tryz.ntmps151
      go_wp2
      go_ret
      exact ⟨rfl, rfl⟩
  · rw [inB_no (fun h => h1 h.1)]
    go_enter Tryz.func151, Tryz.ntmps151
    go_wp2
    go_ret
    exact ⟨rfl, rfl⟩

theorem exponent_any (x : Int) (w : World) : Calls Tryz.prog 79 #[.int .i64 x] w fun e w' => e = .returned (.bool (inB 0 1073741789 x)) ∧ w = w' := by
  by_cases h1 : 0 ≤ x
  · by_cases h2 : x < 1073741789
    · rw [inB_yes h1 h2]
      go_enter Tryz.func79, Tryz.ntmps79
      go_wp2
      go_ret
      exact ⟨rfl, rfl⟩
    · rw [inB_no (fun h => h2 h.2)]
      go_enter Tryz.func79, Tryz.ntmps79
      go_wp2
      go_ret
      exact ⟨rfl, rfl⟩
  · rw [inB_no (fun h => h1 h.1)]
    go_enter Tryz.func79, Tryz.ntmps79
    go_wp2
    go_ret
    exact ⟨rfl, rfl⟩

theorem small_any (x : Int) (w : World) : Calls Tryz.prog 120 #[.int .i64 x] w fun e w' => e = .returned (.bool (inB 0 1073741789 x)) ∧ w = w' := by
  by_cases h1 : 0 ≤ x
  · by_cases h2 : x < 1073741789
    · rw [inB_yes h1 h2]
      go_enter Tryz.func120, Tryz.ntmps120
      go_wp2
      go_ret
      exact ⟨rfl, rfl⟩
    · rw [inB_no (fun h => h2 h.2)]
      go_enter Tryz.func120, Tryz.ntmps120
      go_wp2
      go_ret
      exact ⟨rfl, rfl⟩
  · rw [inB_no (fun h => h1 h.1)]
    go_enter Tryz.func120, Tryz.ntmps120
    go_wp2
    go_ret
    exact ⟨rfl, rfl⟩

theorem public_yes (x : Int) (w : World) (h : inB 1 1073741789 x = true) : Calls Tryz.prog 107 #[.int .i64 x] w fun e w' => e = .returned (.tuple #[.int .i64 (pw 4 x), .int .i64 0]) ∧ w = w' := by
  obtain ⟨h0, h1⟩ := inB_true h
  go_enter Tryz.func107, Tryz.ntmps107
  go_wp2_with (first
    | (go_at_call 151; refine (gsecret_any _ _).mono ?_; rw [h]; rintro e w' ⟨rfl, rfl⟩)
    | (go_at_call 129; refine (power_any _ _ _ (by omega) (by omega) (by omega) (by omega)).mono ?_; rintro e w' ⟨rfl, rfl⟩))
  go_ret2
  exact ⟨rfl, rfl⟩
theorem public_no (x : Int) (w : World) (h : inB 1 1073741789 x = false) : Calls Tryz.prog 107 #[.int .i64 x] w fun e w' => e = .returned (.tuple #[.int .i64 0, .int .i64 3]) ∧ w = w' := by
  go_enter Tryz.func107, Tryz.ntmps107
  go_wp2_with (go_at_call 151; refine (gsecret_any _ _).mono ?_; rw [h]; rintro e w' ⟨rfl, rfl⟩)
  go_ret2
  exact ⟨rfl, rfl⟩

theorem gpower_yes (x k : Int) (w : World) (h : inB 1 2147483579 x = true) (k0 : 0 ≤ k) (k1 : k ≤ 1073741789) : Calls Tryz.prog 80 #[.int .i64 x, .int .i64 k] w fun e w' => e = .returned (.tuple #[.int .i64 (pw x k), .int .i64 0]) ∧ w = w' := by
  obtain ⟨h0, h1⟩ := inB_true h
  go_enter Tryz.func80, Tryz.ntmps80
  go_wp2_with (first
    | (go_at_call 128; refine (residue_any _ _).mono ?_; rw [h]; rintro e w' ⟨rfl, rfl⟩)
    | (go_at_call 129; refine (power_any _ _ _ (by omega) (by omega) (by omega) (by omega)).mono ?_; rintro e w' ⟨rfl, rfl⟩))
  go_ret2
  exact ⟨rfl, rfl⟩
end Go.Proofs.YthbpdhanljpigaaGreatDoor
