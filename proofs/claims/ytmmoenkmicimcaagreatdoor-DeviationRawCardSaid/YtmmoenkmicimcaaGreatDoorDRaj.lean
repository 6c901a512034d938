/- Parts Gr Gs Ml of the proof. -/
import Derived.Test.YtmmoenkmicimcaaGreatDoorDRaf
import Derived.Test.YtmmoenkmicimcaaGreatDoorDRae
import Derived.Test.YtmmoenkmicimcaaGreatDoorDRai
namespace Go.Proofs.YtmmoenkmicimcaaGreatDoor
open Go.RowKit
set_option linter.unusedVariables false
set_option maxRecDepth 100000
set_option maxHeartbeats 400000 in
theorem refpow_any (x k : Int) (w : World) (h0 : 0 ≤ x) (h1 : x < 2147483579) (k0 : 0 ≤ k) (k1 : k < 9223372036854775808) :
    Calls Tryz.prog 106 #[.int .i64 x, .int .i64 k] w fun e w' => e = .returned (.int .i64 (pw x k)) ∧ w = w' := by
  have hs := pinv_start h0 h1 k0
  obtain ⟨x0, hx0⟩ : ∃ y, y = x := ⟨_, rfl⟩
  obtain ⟨c0, hc0⟩ : ∃ y, y = k := ⟨_, rfl⟩
  rw [show pw x k = pw x0 c0 by rw [hx0, hc0]]
  rw [show PInv x k 1 x k = PInv x0 c0 1 x k by rw [hx0, hc0]] at hs
  clear hx0 hc0
  go_enter Tryz.func106, Tryz.ntmps106
  go_wp2
  go_loop [0, 1, 5] (fun x k p => ∃ x' k' p' : Int, x = .int .i64 x' ∧ k = .int .i64 k' ∧ p = .int .i64 p' ∧ k' < 9223372036854775808 ∧ PInv x0 c0 p' x' k') (fun _ k _ => (intOf k).toNat)
  case atStart => exact ⟨_, _, _, rfl, rfl, rfl, k1, hs⟩
  case round =>
    obtain ⟨a, b, p, rfl, rfl, rfl, hb, hp⟩ := hrel
    have hp0 := hp
    obtain ⟨q1, q2, q3, q4, q5, _⟩ := hp0
    obtain ⟨m2, m1⟩ := mul_sq q1 q2 q3 q4
    obtain ⟨m4, m3⟩ := mul_sq q3 q4 q3 q4
    have HP := Lib.hid hp
    clear hp hs h0 h1 k0 k1
    by_cases hb0 : 0 < b
    · by_cases hodd : b % 2 = 1
      · have t1 : (b % 2 == 1) = true := by simp [hodd]
        have HO := Lib.hid hodd
        clear hodd
        go_wp2
        go_round
        case rel => exact ⟨_, _, _, rfl, rfl, rfl, by omega, pinv_odd HP.out HO.out⟩
        case measure => simp [intOf]; omega
      · have t1 : (b % 2 == 1) = false := by simp [hodd]
        have hev : b % 2 = 0 := by omega
        have HO := Lib.hid hev
        clear hodd hev
        go_wp2
        go_round
        case rel => exact ⟨_, _, _, rfl, rfl, rfl, by omega, pinv_even HP.out HO.out⟩
        case measure => simp [intOf]; omega
    · have HB := Lib.hid (pinv_end HP.out (by omega))
      go_wp2
      go_ret
      exact ⟨by rw [← HB.out]; rfl, rfl⟩
set_option maxHeartbeats 400000 in
theorem power_any (x k : Int) (w : World) (h0 : 0 ≤ x) (h1 : x < 2147483579) (k0 : 0 ≤ k) (k1 : k < 9223372036854775808) :
    Calls Tryz.prog 138 #[.int .i64 x, .int .i64 k] w fun e w' => e = .returned (.int .i64 (pw x k)) ∧ w = w' := by
  have hs := pinv_start h0 h1 k0
  obtain ⟨x0, hx0⟩ : ∃ y, y = x := ⟨_, rfl⟩
  rw [show pw x k = pw x0 k by rw [hx0]]
  rw [show PInv x k 1 x k = PInv x0 k 1 x k by rw [hx0]] at hs
  clear hx0
  go_enter Tryz.func138, Tryz.ntmps138
  go_wp2_with (go_at_call 159; refine (bits_Len _ _ (by omega) (by omega)).mono ?_; rintro e w' ⟨rfl, rfl⟩)
  have hlen := bitLen_le k.toNat
  obtain ⟨m, hm⟩ : ∃ m, m = Lib.bitLen k.toNat := ⟨_, rfl⟩
  rw [← hm] at hlen
  rw [← hm]
  have HM := Lib.hid hm
  have HS := Lib.hid hs
  clear hm hs
  go_loop [0, 5, 6, 10] (fun x p _ i => ∃ (x' p' : Int) (j : Nat), x = .int .i64 x' ∧ p = .int .i64 p' ∧ i = .int .i64 (j : Int) ∧ j ≤ m ∧ PInv x0 k p' x' (k / 2 ^ j)) (fun _ _ _ i => m - (intOf i).toNat)
  case atStart => exact ⟨_, _, 0, rfl, rfl, rfl, Nat.zero_le _, by simpa using HS.out⟩
  case round =>
    obtain ⟨a, p, j, rfl, rfl, rfl, hj, hp⟩ := hrel
    have HP := Lib.hid hp
    by_cases hlt : j < m
    · obtain ⟨q1, q2, q3, q4, q5, _⟩ := hp
      obtain ⟨m2, m1⟩ := mul_sq q1 q2 q3 q4
      obtain ⟨m4, m3⟩ := mul_sq q3 q4 q3 q4
      obtain ⟨d0, d1⟩ := div_pow_bd k0 j
      have HH := Lib.hid (half_pow k k0 j)
      have ha := and_one d0 (by omega)
      by_cases hodd : (k / 2 ^ j) % 2 = 1
      · have t1 : (bits .and .i64 (k / 2 ^ j) 1 == 1) = true := by rw [ha, hodd]; rfl
        have HO := Lib.hid (pinv_odd HP.out hodd)
        clear hodd ha d0 d1
        go_wp2
        go_round
        case rel => exact ⟨_, _, j + 1, rfl, rfl, by go_num, by omega, by rw [← HH.out]; exact HO.out⟩
        case measure => simp [intOf]; omega
      · have hev : (k / 2 ^ j) % 2 = 0 := by omega
        have t1 : (bits .and .i64 (k / 2 ^ j) 1 == 1) = false := by rw [ha, hev]; rfl
        have HO := Lib.hid (pinv_even HP.out hev)
        clear hodd hev ha d0 d1
        go_wp2
        go_round
        case rel => exact ⟨_, _, j + 1, rfl, rfl, by go_num, by omega, by rw [← HH.out]; exact HO.out⟩
        case measure => simp [intOf]; omega
    · obtain rfl : j = m := by omega
      have HB := Lib.hid (pinv_end HP.out (by rw [HM.out]; exact bitLen_end k0 k1))
      clear hp
      go_wp2
      go_ret
      exact ⟨by rw [← HB.out]; rfl, rfl⟩
end Go.Proofs.YtmmoenkmicimcaaGreatDoor
namespace Go.Proofs.YtmmoenkmicimcaaGreatDoor
open Go.RowKit
set_option linter.unusedVariables false
set_option maxRecDepth 100000
def inB (lo hi x : Int) : Bool := decide (lo ≤ x ∧ x < hi)
theorem inB_true {lo hi x : Int} (h : inB lo hi x = true) : lo ≤ x ∧ x < hi := of_decide_eq_true h
theorem inB_yes {lo hi x : Int} (h0 : lo ≤ x) (h1 : x < hi) : inB lo hi x = true := decide_eq_true ⟨h0, h1⟩
theorem inB_no {lo hi x : Int} (h : ¬ (lo ≤ x ∧ x < hi)) : inB lo hi x = false := decide_eq_false h
theorem inB_false {lo hi x : Int} (h : inB lo hi x = false) : ¬ (lo ≤ x ∧ x < hi) := of_decide_eq_false h
theorem not_true {b : Bool} (h : ¬ b = true) : b = false := by simpa using h

theorem residue_any (x : Int) (w : World) : Calls Tryz.prog 143 #[.int .i64 x] w fun e w' => e = .returned (.bool (inB 1 2147483579 x)) ∧ w = w' := by
  by_cases h1 : 1 ≤ x
  · by_cases h2 : x < 2147483579
    · rw [inB_yes h1 h2]
      go_enter Tryz.func143, Tryz.ntmps143
      go_wp2
      go_ret
      exact ⟨rfl, rfl⟩
    · rw [inB_no (fun h => h2 h.2)]
      go_enter Tryz.func143, Tryz.ntmps143
      go_wp2
      go_ret
      exact ⟨rfl, rfl⟩
  · rw [inB_no (fun h => h1 h.1)]
    go_enter Tryz.func143, Tryz.ntmps143
    go_wp2
    go_ret
    exact ⟨rfl, rfl⟩

theorem refresidue_any (x : Int) (w : World) : Calls Tryz.prog 156 #[.int .i64 x] w fun e w' => e = .returned (.bool (inB 1 2147483579 x)) ∧ w = w' := by
  by_cases h1 : 1 ≤ x
  · by_cases h2 : x < 2147483579
    · rw [inB_yes h1 h2]
      go_enter Tryz.func156, Tryz.ntmps156
      go_wp2
      go_ret
      exact ⟨rfl, rfl⟩
    · rw [inB_no (fun h => h2 h.2)]
      go_enter Tryz.func156, Tryz.ntmps156
      go_wp2
      go_ret
      exact ⟨rfl, rfl⟩
  · rw [inB_no (fun h => h1 h.1)]
    go_enter Tryz.func156, Tryz.ntmps156
    go_wp2
    go_ret
    exact ⟨rfl, rfl⟩

theorem gsecret_any (x : Int) (w : World) : Calls Tryz.prog 137 #[.int .i64 x] w fun e w' => e = .returned (.bool (inB 1 1073741789 x)) ∧ w = w' := by
  by_cases h1 : 1 ≤ x
  · by_cases h2 : x < 1073741789
    · rw [inB_yes h1 h2]
      go_enter Tryz.func137, Tryz.ntmps137
      go_wp2
      go_ret
      exact ⟨rfl, rfl⟩
    · rw [inB_no (fun h => h2 h.2)]
      go_enter Tryz.func137, Tryz.ntmps137
      go_wp2
      go_ret
      exact ⟨rfl, rfl⟩
  · rw [inB_no (fun h => h1 h.1)]
    go_enter Tryz.func137, Tryz.ntmps137
    go_wp2
    go_ret
    exact ⟨rfl, rfl⟩

theorem refsecretB_any (x : Int) (w : World) : Calls Tryz.prog 100 #[.int .i64 x] w fun e w' => e = .returned (.bool (inB 1 1073741789 x)) ∧ w = w' := by
  by_cases h1 : 1 ≤ x
  · by_cases h2 : x < 1073741789
    · rw [inB_yes h1 h2]
      go_enter Tryz.func100, Tryz.ntmps100
      go_wp2
      go_ret
      exact ⟨rfl, rfl⟩
    · rw [inB_no (fun h => h2 h.2)]
      go_enter Tryz.func100, Tryz.ntmps100
      go_wp2
      go_ret
      exact ⟨rfl, rfl⟩
  · rw [inB_no (fun h => h1 h.1)]
    go_enter Tryz.func100, Tryz.ntmps100
    go_wp2
    go_ret
    exact ⟨rfl, rfl⟩

theorem exponent_any (x : Int) (w : World) : Calls Tryz.prog 122 #[.int .i64 x] w fun e w' => e = .returned (.bool (inB 0 1073741789 x)) ∧ w = w' := by
  by_cases h1 : 0 ≤ x
  · by_cases h2 : x < 1073741789
    · rw [inB_yes h1 h2]
      go_enter Tryz.func122, Tryz.ntmps122
      go_wp2
      go_ret
      exact ⟨rfl, rfl⟩
    · rw [inB_no (fun h => h2 h.2)]
      go_enter Tryz.func122, Tryz.ntmps122
      go_wp2
      go_ret
      exact ⟨rfl, rfl⟩
  · rw [inB_no (fun h => h1 h.1)]
    go_enter Tryz.func122, Tryz.ntmps122
    go_wp2
    go_ret
    exact ⟨rfl, rfl⟩

theorem isElem_eq (x : Int) (h : inB 1 2147483579 x = true) (h1 : x ≠ 1) : isElem x = (pw x 1073741789 == 1) := by
  obtain ⟨a, b⟩ := inB_true h
  unfold isElem
  rw [decide_eq_true (show 0 < x by omega), decide_eq_true b]
  simp [h1]
theorem isElem_out (x : Int) (h : inB 1 2147483579 x = false) : isElem x = false := by
  have := inB_false h
  unfold isElem
  by_cases a : 0 < x
  · have b : ¬ x < 2147483579 := by omega
    simp [b]
  · simp [a]
theorem isElem_one : isElem 1 = false := by simp [isElem]
theorem isElem_in {x : Int} (h : isElem x = true) : 1 ≤ x ∧ x < 2147483579 := by
  cases hb : inB 1 2147483579 x with
  | true => exact inB_true hb
  | false => rw [isElem_out x hb] at h; cases h

theorem element_any (x : Int) (w : World) : Calls Tryz.prog 121 #[.int .i64 x] w fun e w' => e = .returned (.bool (isElem x)) ∧ w = w' := by
  by_cases h : inB 1 2147483579 x = true
  · obtain ⟨h0, h1⟩ := inB_true h
    by_cases hx : x = 1
    · subst hx
      rw [isElem_one]
      go_enter Tryz.func121, Tryz.ntmps121
      go_wp2_with (go_at_call 143; refine (residue_any _ _).mono ?_; rw [h]; rintro e w' ⟨rfl, rfl⟩)
      go_ret
      exact ⟨rfl, rfl⟩
    · rw [isElem_eq x h hx]
      have h1' : (x != 1) = true := by simp [hx]
      go_enter Tryz.func121, Tryz.ntmps121
      go_wp2_with (first
        | (go_at_call 143; refine (residue_any _ _).mono ?_; rw [h]; rintro e w' ⟨rfl, rfl⟩)
        | (go_at_call 138; refine (power_any _ _ _ (by omega) (by omega) (by omega) (by omega)).mono ?_; rintro e w' ⟨rfl, rfl⟩))
      go_ret
      exact ⟨rfl, rfl⟩
  · have h' := not_true h
    rw [isElem_out x h']
    go_enter Tryz.func121, Tryz.ntmps121
    go_wp2_with (go_at_call 143; refine (residue_any _ _).mono ?_; rw [h']; rintro e w' ⟨rfl, rfl⟩)
    go_ret
    exact ⟨rfl, rfl⟩

theorem refelement_any (x : Int) (w : World) : Calls Tryz.prog 127 #[.int .i64 x] w fun e w' => e = .returned (.bool (isElem x)) ∧ w = w' := by
  by_cases h : inB 1 2147483579 x = true
  · obtain ⟨h0, h1⟩ := inB_true h
    by_cases hx : x = 1
    · subst hx
      rw [isElem_one]
      go_enter Tryz.func127, Tryz.ntmps127
      go_wp2_with (go_at_call 156; refine (refresidue_any _ _).mono ?_; rw [h]; rintro e w' ⟨rfl, rfl⟩)
      go_ret
      exact ⟨rfl, rfl⟩
    · rw [isElem_eq x h hx]
      have h1' : (x != 1) = true := by simp [hx]
      go_enter Tryz.func127, Tryz.ntmps127
      go_wp2_with (first
        | (go_at_call 156; refine (refresidue_any _ _).mono ?_; rw [h]; rintro e w' ⟨rfl, rfl⟩)
        | (go_at_call 106; refine (refpow_any _ _ _ (by omega) (by omega) (by omega) (by omega)).mono ?_; rintro e w' ⟨rfl, rfl⟩))
      go_ret
      exact ⟨rfl, rfl⟩
  · have h' := not_true h
    rw [isElem_out x h']
    go_enter Tryz.func127, Tryz.ntmps127
    go_wp2_with (go_at_call 156; refine (refresidue_any _ _).mono ?_; rw [h']; rintro e w' ⟨rfl, rfl⟩)
    go_ret
    exact ⟨rfl, rfl⟩

theorem public_yes (x : Int) (w : World) (h : inB 1 1073741789 x = true) : Calls Tryz.prog 97 #[.int .i64 x] w fun e w' => e = .returned (.tuple #[.int .i64 (pw 4 x), .int .i64 0]) ∧ w = w' := by
  obtain ⟨h0, h1⟩ := inB_true h
  go_enter Tryz.func97, Tryz.ntmps97
  go_wp2_with (first
    | (go_at_call 137; refine (gsecret_any _ _).mono ?_; rw [h]; rintro e w' ⟨rfl, rfl⟩)
    | (go_at_call 138; refine (power_any _ _ _ (by omega) (by omega) (by omega) (by omega)).mono ?_; rintro e w' ⟨rfl, rfl⟩))
  go_ret2
  exact ⟨rfl, rfl⟩
theorem public_no (x : Int) (w : World) (h : inB 1 1073741789 x = false) : Calls Tryz.prog 97 #[.int .i64 x] w fun e w' => e = .returned (.tuple #[.int .i64 0, .int .i64 3]) ∧ w = w' := by
  go_enter Tryz.func97, Tryz.ntmps97
  go_wp2_with (go_at_call 137; refine (gsecret_any _ _).mono ?_; rw [h]; rintro e w' ⟨rfl, rfl⟩)
  go_ret2
  exact ⟨rfl, rfl⟩

theorem refpublic_yes (x : Int) (w : World) (h : inB 1 1073741789 x = true) : Calls Tryz.prog 114 #[.int .i64 x] w fun e w' => e = .returned (.tuple #[.int .i64 (pw 4 x), .int .i64 0]) ∧ w = w' := by
  obtain ⟨h0, h1⟩ := inB_true h
  go_enter Tryz.func114, Tryz.ntmps114
  go_wp2_with (first
    | (go_at_call 100; refine (refsecretB_any _ _).mono ?_; rw [h]; rintro e w' ⟨rfl, rfl⟩)
    | (go_at_call 106; refine (refpow_any _ _ _ (by omega) (by omega) (by omega) (by omega)).mono ?_; rintro e w' ⟨rfl, rfl⟩))
  go_ret2
  exact ⟨rfl, rfl⟩
theorem gpower_yes (x k : Int) (w : World) (h : inB 1 2147483579 x = true) (k0 : 0 ≤ k) (k1 : k ≤ 1073741789) : Calls Tryz.prog 99 #[.int .i64 x, .int .i64 k] w fun e w' => e = .returned (.tuple #[.int .i64 (pw x k), .int .i64 0]) ∧ w = w' := by
  obtain ⟨h0, h1⟩ := inB_true h
  go_enter Tryz.func99, Tryz.ntmps99
  go_wp2_with (first
    | (go_at_call 143; refine (residue_any _ _).mono ?_; rw [h]; rintro e w' ⟨rfl, rfl⟩)
    | (go_at_call 138; refine (power_any _ _ _ (by omega) (by omega) (by omega) (by omega)).mono ?_; rintro e w' ⟨rfl, rfl⟩))
  go_ret2
  exact ⟨rfl, rfl⟩
theorem multiply_yes (x y : Int) (w : World) (h : inB 1 2147483579 x = true) (hy : inB 1 2147483579 y = true) : Calls Tryz.prog 123 #[.int .i64 x, .int .i64 y] w fun e w' => e = .returned (.tuple #[.int .i64 (x * y % 2147483579), .int .i64 0]) ∧ w = w' := by
  obtain ⟨h0, h1⟩ := inB_true h
  obtain ⟨h2, h3⟩ := inB_true hy
  obtain ⟨m0, m1⟩ := mul_sq (by omega) h1 (by omega) h3
  go_enter Tryz.func123, Tryz.ntmps123
  go_wp2_with fail
  refine (residue_any _ _).mono ?_
  rw [h]
  rintro e w' ⟨rfl, rfl⟩
  go_wp2_with fail
  refine (residue_any _ _).mono ?_
  rw [hy]
  rintro e w' ⟨rfl, rfl⟩
  go_wp2_with fail
  go_ret2
  exact ⟨rfl, rfl⟩
/-- A secret that is made of any number. -/
def nearI (x : Int) : Int := 1 + x % 1073741788
theorem near_bd (x : Int) : 1 ≤ nearI x ∧ nearI x < 1073741789 := by unfold nearI; omega
theorem near_in (x : Int) : inB 1 1073741789 (nearI x) = true := inB_yes (near_bd x).1 (near_bd x).2
end Go.Proofs.YtmmoenkmicimcaaGreatDoor
namespace Go.Proofs.YtmmoenkmicimcaaGreatDoor
open Go.RowKit
set_option linter.unusedVariables false
set_option maxRecDepth 100000
def modI (x m : Int) : Int := if m < 1 then 0 else x % m
theorem modI_pos {x m : Int} (h : 1 ≤ m) : modI x m = x % m := if_neg (by omega)
theorem modI_bd {x m : Int} (h : 1 ≤ m) : 0 ≤ modI x m ∧ modI x m < m := by rw [modI_pos h]; exact ⟨Int.emod_nonneg _ (by omega), Int.emod_lt_of_pos _ (by omega)⟩
theorem tmod_bd {x m : Int} (h : 1 ≤ m) : -m < x.tmod m ∧ x.tmod m < m := by
  have h1 := Int.tmod_lt_of_pos x (show 0 < m by omega)
  have h2 := Int.tmod_lt_of_pos (-x) (show 0 < m by omega)
  rw [Int.neg_tmod] at h2
  omega
theorem tmod_add_mod {x m : Int} (h : 1 ≤ m) : (x.tmod m + m) % m = x % m := by
  rw [Int.add_emod_right]
  have e := Int.tmod_add_mul_tdiv x m
  conv => rhs; rw [← e]
  rw [Int.add_mul_emod_self_left]
theorem mod_any (x m : Int) (w : World) (x0 : -9223372036854775808 ≤ x) (x1 : x < 9223372036854775808) (hm : m ≤ 4611686018427387904) : Calls Tryz.prog 10 #[.int .i64 x, .int .i64 m] w fun e w' => e = .returned (.int .i64 (modI x m)) ∧ w = w' := by
  by_cases h : m < 1
  · rw [modI, if_pos h]
    go_enter Tryz.func10, Tryz.ntmps10
    go_wp2
    go_ret
    exact ⟨rfl, rfl⟩
  · have h1 : 1 ≤ m := by omega
    rw [modI_pos h1]
    by_cases hx : 0 ≤ x
    · have q0 := Int.emod_nonneg x (show m ≠ 0 by omega)
      have q1 := Int.emod_lt_of_pos x (show 0 < m by omega)
      have H := Lib.hid (show (x % m + m) % m = x % m by rw [Int.add_emod_right, Int.emod_emod])
      go_enter Tryz.func10, Tryz.ntmps10
      go_wp2
      go_ret
      exact ⟨by rw [← H.out]; rfl, rfl⟩
    · obtain ⟨q0, q1⟩ := tmod_bd (x := x) h1
      have H := Lib.hid (show x.tmod m % m = x % m by have := tmod_add_mod (x := x) h1; rwa [Int.add_emod_right] at this)
      go_enter Tryz.func10, Tryz.ntmps10
      go_wp2
      go_ret
      exact ⟨by rw [← H.out]; rfl, rfl⟩
theorem nearI_mod (x : Int) : 1 + modI x 1073741788 = nearI x := by rw [modI_pos (by omega)]; rfl
theorem secretM_any (x : Int) (w : World) (x0 : -9223372036854775808 ≤ x) (x1 : x < 9223372036854775808) : Calls Tryz.prog 71 #[.int .i64 x] w fun e w' => e = .returned (.tuple #[.int .i64 (nearI x), .int .i64 (pw 4 (nearI x))]) ∧ w = w' := by
  obtain ⟨b0, b1⟩ := modI_bd (x := x) (m := 1073741788) (by omega)
  have H := Lib.hid (nearI_mod x)
  go_enter Tryz.func71, Tryz.ntmps71
  go_wp2_with fail
  refine (mod_any _ _ _ x0 x1 (by omega)).mono ?_
  rintro e w' ⟨rfl, rfl⟩
  go_wp2_with fail
  rw [H.out]
  refine (refpublic_yes _ _ (near_in x)).mono ?_
  rintro e w' ⟨rfl, rfl⟩
  go_wp2_with fail
  go_ret2
  exact ⟨rfl, rfl⟩
end Go.Proofs.YtmmoenkmicimcaaGreatDoor
