/- The group: what the code and its reference return. -/
import Derived.Test.YtkjplpmogfmhkaaGreatDoorBl
import Derived.Test.YtkjplpmogfmhkaaGreatDoorGm
import Derived.Test.YtkjplpmogfmhkaaGreatDoorNo
namespace Go.Proofs.YtkjplpmogfmhkaaGreatDoor
open Go.RowKit
set_option linter.unusedVariables false
set_option maxRecDepth 100000

set_option maxHeartbeats 400000 in
theorem refpow_any (x k : Int) (w : World) (h0 : 0 ≤ x) (h1 : x < 2147483579) (k0 : 0 ≤ k) (k1 : k < 9223372036854775808) :
    Calls Tryz.prog 224 #[.int .i64 x, .int .i64 k] w fun e w' => e = .returned (.int .i64 (pw x k)) ∧ w = w' := by
  have hs := pinv_start h0 h1 k0
  obtain ⟨x0, hx0⟩ : ∃ y, y = x := ⟨_, rfl⟩
  obtain ⟨c0, hc0⟩ : ∃ y, y = k := ⟨_, rfl⟩
  rw [show pw x k = pw x0 c0 by rw [hx0, hc0]]
  rw [show PInv x k 1 x k = PInv x0 c0 1 x k by rw [hx0, hc0]] at hs
  clear hx0 hc0
  go_enter Tryz.func224, Tryz.ntmps224
  go_wp2
  go_loop [0, 1, 5] (fun x k p => ∃ x' k' p' : Int, x = .int .i64 x' ∧ k = .int .i64 k' ∧ p = .int .i64 p' ∧ k' < 9223372036854775808 ∧ PInv x0 c0 p' x' k') (fun _ k _ => (intOf k).toNat)
  case atStart => exact ⟨_, _, _, rfl, rfl, rfl, k1, hs⟩
  case round =>
    obtain ⟨a, b, p, rfl, rfl, rfl, hb, hp⟩ := hrel
    have hp0 := hp
    obtain ⟨q1, q2, q3, q4, q5, _⟩ := hp0
    obtain ⟨m2, m1⟩ := mul_sq q1 q2 q3 q4
    obtain ⟨m4, m3⟩ := mul_sq q3 q4 q3 q4
    have HP := Lib.hid hp
    clear hp hs h0 h1 k0 k1
    by_cases hb0 : 0 < b
    · by_cases hodd : b % 2 = 1
      · have t1 : (b % 2 == 1) = true := by simp [hodd]
        have HO := Lib.hid hodd
        clear hodd
        go_wp2
        go_round
        case rel => exact ⟨_, _, _, rfl, rfl, rfl, by omega, pinv_odd HP.out HO.out⟩
        case measure => simp [intOf]; omega
      · have t1 : (b % 2 == 1) = false := by simp [hodd]
        have hev : b % 2 = 0 := by omega
        have HO := Lib.hid hev
        clear hodd hev
        go_wp2
        go_round
        case rel => exact ⟨_, _, _, rfl, rfl, rfl, by omega, pinv_even HP.out HO.out⟩
        case measure => simp [intOf]; omega
    · have HB := Lib.hid (pinv_end HP.out (by omega))
      go_wp2
      go_ret
      exact ⟨by rw [← HB.out]; rfl, rfl⟩
set_option maxHeartbeats 400000 in
theorem power_any (x k : Int) (w : World) (h0 : 0 ≤ x) (h1 : x < 2147483579) (k0 : 0 ≤ k) (k1 : k < 9223372036854775808) :
    Calls Tryz.prog 261 #[.int .i64 x, .int .i64 k] w fun e w' => e = .returned (.int .i64 (pw x k)) ∧ w = w' := by
  have hs := pinv_start h0 h1 k0
  obtain ⟨x0, hx0⟩ : ∃ y, y = x := ⟨_, rfl⟩
  rw [show pw x k = pw x0 k by rw [hx0]]
  rw [show PInv x k 1 x k = PInv x0 k 1 x k by rw [hx0]] at hs
  clear hx0
  go_enter Tryz.func261, Tryz.ntmps261
  go_wp2_with (go_at_call 276; refine (bits_Len _ _ (by omega) (by omega)).mono ?_; rintro e w' ⟨rfl, rfl⟩)
  have hlen := bitLen_le k.toNat
  obtain ⟨m, hm⟩ : ∃ m, m = Lib.bitLen k.toNat := ⟨_, rfl⟩
  rw [← hm] at hlen
  rw [← hm]
  have HM := Lib.hid hm
  have HS := Lib.hid hs
  clear hm hs
  go_loop [0, 5, 6, 10] (fun x p _ i => ∃ (x' p' : Int) (j : Nat), x = .int .i64 x' ∧ p = .int .i64 p' ∧ i = .int .i64 (j : Int) ∧ j ≤ m ∧ PInv x0 k p' x' (k / 2 ^ j)) (fun _ _ _ i => m - (intOf i).toNat)
  case atStart => exact ⟨_, _, 0, rfl, rfl, rfl, Nat.zero_le _, by simpa using HS.out⟩
  case round =>
    obtain ⟨a, p, j, rfl, rfl, rfl, hj, hp⟩ := hrel
    have HP := Lib.hid hp
    by_cases hlt : j < m
    · obtain ⟨q1, q2, q3, q4, q5, _⟩ := hp
      obtain ⟨m2, m1⟩ := mul_sq q1 q2 q3 q4
      obtain ⟨m4, m3⟩ := mul_sq q3 q4 q3 q4
      obtain ⟨d0, d1⟩ := div_pow_bd k0 j
      have HH := Lib.hid (half_pow k k0 j)
      have ha := and_one d0 (by omega)
      by_cases hodd : (k / 2 ^ j) % 2 = 1
      · have t1 : (bits .and .i64 (k / 2 ^ j) 1 == 1) = true := by rw [ha, hodd]; rfl
        have HO := Lib.hid (pinv_odd HP.out hodd)
        clear hodd ha d0 d1
        go_wp2
        go_round
        case rel => exact ⟨_, _, j + 1, rfl, rfl, by go_num, by omega, by rw [← HH.out]; exact HO.out⟩
        case measure => simp [intOf]; omega
      · have hev : (k / 2 ^ j) % 2 = 0 := by omega
        have t1 : (bits .and .i64 (k / 2 ^ j) 1 == 1) = false := by rw [ha, hev]; rfl
        have HO := Lib.hid (pinv_even HP.out hev)
        clear hodd hev ha d0 d1
        go_wp2
        go_round
        case rel => exact ⟨_, _, j + 1, rfl, rfl, by go_num, by omega, by rw [← HH.out]; exact HO.out⟩
        case measure => simp [intOf]; omega
    · obtain rfl : j = m := by omega
      have HB := Lib.hid (pinv_end HP.out (by rw [HM.out]; exact bitLen_end k0 k1))
      clear hp
      go_wp2
      go_ret
      exact ⟨by rw [← HB.out]; rfl, rfl⟩
end Go.Proofs.YtkjplpmogfmhkaaGreatDoor
