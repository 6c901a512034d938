/- The group: range tests, elements, powers, products, public keys, secrets out of numbers. -/
import Derived.Test.YtkjplpmogfmhkaaGreatDoorGr
namespace Go.Proofs.YtkjplpmogfmhkaaGreatDoor
open Go.RowKit
set_option linter.unusedVariables false
set_option maxRecDepth 100000

def inB (lo hi x : Int) : Bool := decide (lo ≤ x ∧ x < hi)
theorem inB_true {lo hi x : Int} (h : inB lo hi x = true) : lo ≤ x ∧ x < hi := of_decide_eq_true h
theorem inB_yes {lo hi x : Int} (h0 : lo ≤ x) (h1 : x < hi) : inB lo hi x = true := decide_eq_true ⟨h0, h1⟩
theorem inB_no {lo hi x : Int} (h : ¬ (lo ≤ x ∧ x < hi)) : inB lo hi x = false := decide_eq_false h
theorem inB_false {lo hi x : Int} (h : inB lo hi x = false) : ¬ (lo ≤ x ∧ x < hi) := of_decide_eq_false h
theorem not_true {b : Bool} (h : ¬ b = true) : b = false := by simpa using h

theorem residue_any (x : Int) (w : World) : Calls Tryz.prog 265 #[.int .i64 x] w fun e w' => e = .returned (.bool (inB 1 2147483579 x)) ∧ w = w' := by
  by_cases h1 : 1 ≤ x
  · by_cases h2 : x < 2147483579
    · rw [inB_yes h1 h2]
      go_enter Tryz.func265, Tryz.ntmps265
      go_wp2
      go_ret
      exact ⟨rfl, rfl⟩
    · rw [inB_no (fun h => h2 h.2)]
      go_enter Tryz.func265, Tryz.ntmps265
      go_wp2
      go_ret
      exact ⟨rfl, rfl⟩
  · rw [inB_no (fun h => h1 h.1)]
    go_enter Tryz.func265, Tryz.ntmps265
    go_wp2
    go_ret
    exact ⟨rfl, rfl⟩

theorem refresidue_any (x : Int) (w : World) : Calls Tryz.prog 244 #[.int .i64 x] w fun e w' => e = .returned (.bool (inB 1 2147483579 x)) ∧ w = w' := by
  by_cases h1 : 1 ≤ x
  · by_cases h2 : x < 2147483579
    · rw [inB_yes h1 h2]
      go_enter Tryz.func244, Tryz.ntmps244
      go_wp2
      go_ret
      exact ⟨rfl, rfl⟩
    · rw [inB_no (fun h => h2 h.2)]
      go_enter Tryz.func244, Tryz.ntmps244
      go_wp2
      go_ret
      exact ⟨rfl, rfl⟩
  · rw [inB_no (fun h => h1 h.1)]
    go_enter Tryz.func244, Tryz.ntmps244
    go_wp2
    go_ret
    exact ⟨rfl, rfl⟩

theorem gsecret_any (x : Int) (w : World) : Calls Tryz.prog 260 #[.int .i64 x] w fun e w' => e = .returned (.bool (inB 1 1073741789 x)) ∧ w = w' := by
  by_cases h1 : 1 ≤ x
  · by_cases h2 : x < 1073741789
    · rw [inB_yes h1 h2]
      go_enter Tryz.func260, Tryz.ntmps260
      go_wp2
      go_ret
      exact ⟨rfl, rfl⟩
    · rw [inB_no (fun h => h2 h.2)]
      go_enter Tryz.func260, Tryz.ntmps260
      go_wp2
      go_ret
      exact ⟨rfl, rfl⟩
  · rw [inB_no (fun h => h1 h.1)]
    go_enter Tryz.func260, Tryz.ntmps260
    go_wp2
    go_ret
    exact ⟨rfl, rfl⟩

theorem refsecretB_any (x : Int) (w : World) : Calls Tryz.prog 218 #[.int .i64 x] w fun e w' => e = .returned (.bool (inB 1 1073741789 x)) ∧ w = w' := by
  by_cases h1 : 1 ≤ x
  · by_cases h2 : x < 1073741789
    · rw [inB_yes h1 h2]
      go_enter Tryz.func218, Tryz.ntmps218
      go_wp2
      go_ret
      exact ⟨rfl, rfl⟩
    · rw [inB_no (fun h => h2 h.2)]
      go_enter Tryz.func218, Tryz.ntmps218
      go_wp2
      go_ret
      exact ⟨rfl, rfl⟩
  · rw [inB_no (fun h => h1 h.1)]
    go_enter Tryz.func218, Tryz.ntmps218
    go_wp2
    go_ret
    exact ⟨rfl, rfl⟩

theorem exponent_any (x : Int) (w : World) : Calls Tryz.prog 249 #[.int .i64 x] w fun e w' => e = .returned (.bool (inB 0 1073741789 x)) ∧ w = w' := by
  by_cases h1 : 0 ≤ x
  · by_cases h2 : x < 1073741789
    · rw [inB_yes h1 h2]
      go_enter Tryz.func249, Tryz.ntmps249
      go_wp2
      go_ret
      exact ⟨rfl, rfl⟩
    · rw [inB_no (fun h => h2 h.2)]
      go_enter Tryz.func249, Tryz.ntmps249
      go_wp2
      go_ret
      exact ⟨rfl, rfl⟩
  · rw [inB_no (fun h => h1 h.1)]
    go_enter Tryz.func249, Tryz.ntmps249
    go_wp2
    go_ret
    exact ⟨rfl, rfl⟩

theorem small_any (x : Int) (w : World) : Calls Tryz.prog 228 #[.int .i64 x] w fun e w' => e = .returned (.bool (inB 0 1073741789 x)) ∧ w = w' := by
  by_cases h1 : 0 ≤ x
  · by_cases h2 : x < 1073741789
    · rw [inB_yes h1 h2]
      go_enter Tryz.func228, Tryz.ntmps228
      go_wp2
      go_ret
      exact ⟨rfl, rfl⟩
    · rw [inB_no (fun h => h2 h.2)]
      go_enter Tryz.func228, Tryz.ntmps228
      go_wp2
      go_ret
      exact ⟨rfl, rfl⟩
  · rw [inB_no (fun h => h1 h.1)]
    go_enter Tryz.func228, Tryz.ntmps228
    go_wp2
    go_ret
    exact ⟨rfl, rfl⟩

theorem isElem_eq (x : Int) (h : inB 1 2147483579 x = true) (h1 : x ≠ 1) : isElem x = (pw x 1073741789 == 1) := by
  obtain ⟨a, b⟩ := inB_true h
  unfold isElem
  rw [decide_eq_true (show 0 < x by omega), decide_eq_true b]
  simp [h1]
theorem isElem_out (x : Int) (h : inB 1 2147483579 x = false) : isElem x = false := by
  have := inB_false h
  unfold isElem
  by_cases a : 0 < x
  · have b : ¬ x < 2147483579 := by omega
    simp [b]
  · simp [a]
theorem isElem_one : isElem 1 = false := by simp [isElem]
theorem isElem_in {x : Int} (h : isElem x = true) : 1 ≤ x ∧ x < 2147483579 := by
  cases hb : inB 1 2147483579 x with
  | true => exact inB_true hb
  | false => rw [isElem_out x hb] at h; cases h

theorem element_any (x : Int) (w : World) : Calls Tryz.prog 240 #[.int .i64 x] w fun e w' => e = .returned (.bool (isElem x)) ∧ w = w' := by
  by_cases h : inB 1 2147483579 x = true
  · obtain ⟨h0, h1⟩ := inB_true h
    by_cases hx : x = 1
    · subst hx
      rw [isElem_one]
      go_enter Tryz.func240, Tryz.ntmps240
      go_wp2_with (go_at_call 265; refine (residue_any _ _).mono ?_; rw [h]; rintro e w' ⟨rfl, rfl⟩)
      go_ret
      exact ⟨rfl, rfl⟩
    · rw [isElem_eq x h hx]
      have h1' : (x != 1) = true := by simp [hx]
      go_enter Tryz.func240, Tryz.ntmps240
      go_wp2_with (first
        | (go_at_call 265; refine (residue_any _ _).mono ?_; rw [h]; rintro e w' ⟨rfl, rfl⟩)
        | (go_at_call 261; refine (power_any _ _ _ (by omega) (by omega) (by omega) (by omega)).mono ?_; rintro e w' ⟨rfl, rfl⟩))
      go_ret
      exact ⟨rfl, rfl⟩
  · have h' := not_true h
    rw [isElem_out x h']
    go_enter Tryz.func240, Tryz.ntmps240
    go_wp2_with (go_at_call 265; refine (residue_any _ _).mono ?_; rw [h']; rintro e w' ⟨rfl, rfl⟩)
    go_ret
    exact ⟨rfl, rfl⟩

theorem refelement_any (x : Int) (w : World) : Calls Tryz.prog 184 #[.int .i64 x] w fun e w' => e = .returned (.bool (isElem x)) ∧ w = w' := by
  by_cases h : inB 1 2147483579 x = true
  · obtain ⟨h0, h1⟩ := inB_true h
    by_cases hx : x = 1
    · subst hx
      rw [isElem_one]
      go_enter Tryz.func184, Tryz.ntmps184
      go_wp2_with (go_at_call 244; refine (refresidue_any _ _).mono ?_; rw [h]; rintro e w' ⟨rfl, rfl⟩)
      go_ret
      exact ⟨rfl, rfl⟩
    · rw [isElem_eq x h hx]
      have h1' : (x != 1) = true := by simp [hx]
      go_enter Tryz.func184, Tryz.ntmps184
      go_wp2_with (first
        | (go_at_call 244; refine (refresidue_any _ _).mono ?_; rw [h]; rintro e w' ⟨rfl, rfl⟩)
        | (go_at_call 224; refine (refpow_any _ _ _ (by omega) (by omega) (by omega) (by omega)).mono ?_; rintro e w' ⟨rfl, rfl⟩))
      go_ret
      exact ⟨rfl, rfl⟩
  · have h' := not_true h
    rw [isElem_out x h']
    go_enter Tryz.func184, Tryz.ntmps184
    go_wp2_with (go_at_call 244; refine (refresidue_any _ _).mono ?_; rw [h']; rintro e w' ⟨rfl, rfl⟩)
    go_ret
    exact ⟨rfl, rfl⟩

theorem public_yes (x : Int) (w : World) (h : inB 1 1073741789 x = true) : Calls Tryz.prog 215 #[.int .i64 x] w fun e w' => e = .returned (.tuple #[.int .i64 (pw 4 x), .int .i64 0]) ∧ w = w' := by
  obtain ⟨h0, h1⟩ := inB_true h
  go_enter Tryz.func215, Tryz.ntmps215
  go_wp2_with (first
    | (go_at_call 260; refine (gsecret_any _ _).mono ?_; rw [h]; rintro e w' ⟨rfl, rfl⟩)
    | (go_at_call 261; refine (power_any _ _ _ (by omega) (by omega) (by omega) (by omega)).mono ?_; rintro e w' ⟨rfl, rfl⟩))
  go_ret2
  exact ⟨rfl, rfl⟩
theorem public_no (x : Int) (w : World) (h : inB 1 1073741789 x = false) : Calls Tryz.prog 215 #[.int .i64 x] w fun e w' => e = .returned (.tuple #[.int .i64 0, .int .i64 3]) ∧ w = w' := by
  go_enter Tryz.func215, Tryz.ntmps215
  go_wp2_with (go_at_call 260; refine (gsecret_any _ _).mono ?_; rw [h]; rintro e w' ⟨rfl, rfl⟩)
  go_ret2
  exact ⟨rfl, rfl⟩

theorem refpublic_yes (x : Int) (w : World) (h : inB 1 1073741789 x = true) : Calls Tryz.prog 200 #[.int .i64 x] w fun e w' => e = .returned (.tuple #[.int .i64 (pw 4 x), .int .i64 0]) ∧ w = w' := by
  obtain ⟨h0, h1⟩ := inB_true h
  go_enter Tryz.func200, Tryz.ntmps200
  go_wp2_with (first
    | (go_at_call 218; refine (refsecretB_any _ _).mono ?_; rw [h]; rintro e w' ⟨rfl, rfl⟩)
    | (go_at_call 224; refine (refpow_any _ _ _ (by omega) (by omega) (by omega) (by omega)).mono ?_; rintro e w' ⟨rfl, rfl⟩))
  go_ret2
  exact ⟨rfl, rfl⟩
theorem refpublic_no (x : Int) (w : World) (h : inB 1 1073741789 x = false) : Calls Tryz.prog 200 #[.int .i64 x] w fun e w' => e = .returned (.tuple #[.int .i64 0, .int .i64 3]) ∧ w = w' := by
  go_enter Tryz.func200, Tryz.ntmps200
  go_wp2_with (go_at_call 218; refine (refsecretB_any _ _).mono ?_; rw [h]; rintro e w' ⟨rfl, rfl⟩)
  go_ret2
  exact ⟨rfl, rfl⟩

theorem gpower_yes (x k : Int) (w : World) (h : inB 1 2147483579 x = true) (k0 : 0 ≤ k) (k1 : k ≤ 1073741789) : Calls Tryz.prog 217 #[.int .i64 x, .int .i64 k] w fun e w' => e = .returned (.tuple #[.int .i64 (pw x k), .int .i64 0]) ∧ w = w' := by
  obtain ⟨h0, h1⟩ := inB_true h
  go_enter Tryz.func217, Tryz.ntmps217
  go_wp2_with (first
    | (go_at_call 265; refine (residue_any _ _).mono ?_; rw [h]; rintro e w' ⟨rfl, rfl⟩)
    | (go_at_call 261; refine (power_any _ _ _ (by omega) (by omega) (by omega) (by omega)).mono ?_; rintro e w' ⟨rfl, rfl⟩))
  go_ret2
  exact ⟨rfl, rfl⟩
theorem multiply_yes (x y : Int) (w : World) (h : inB 1 2147483579 x = true) (hy : inB 1 2147483579 y = true) : Calls Tryz.prog 250 #[.int .i64 x, .int .i64 y] w fun e w' => e = .returned (.tuple #[.int .i64 (x * y % 2147483579), .int .i64 0]) ∧ w = w' := by
  obtain ⟨h0, h1⟩ := inB_true h
  obtain ⟨h2, h3⟩ := inB_true hy
  obtain ⟨m0, m1⟩ := mul_sq (by omega) h1 (by omega) h3
  go_enter Tryz.func250, Tryz.ntmps250
  go_wp2_with fail
  refine (residue_any _ _).mono ?_
  rw [h]
  rintro e w' ⟨rfl, rfl⟩
  go_wp2_with fail
  refine (residue_any _ _).mono ?_
  rw [hy]
  rintro e w' ⟨rfl, rfl⟩
  go_wp2_with fail
  go_ret2
  exact ⟨rfl, rfl⟩
/-- A secret that is made of any number. -/
def nearI (x : Int) : Int := 1 + x % 1073741788
theorem near_bd (x : Int) : 1 ≤ nearI x ∧ nearI x < 1073741789 := by unfold nearI; omega
theorem near_in (x : Int) : inB 1 1073741789 (nearI x) = true := inB_yes (near_bd x).1 (near_bd x).2
theorem tmod_facts {x : Int} (h : x < 0) : -1073741788 < x.tmod 1073741788 ∧ x.tmod 1073741788 ≤ 0 ∧ (x.tmod 1073741788 < 0 → x % 1073741788 = x.tmod 1073741788 + 1073741788) ∧ (x.tmod 1073741788 = 0 → x % 1073741788 = 0) := by
  have e := Int.tmod_eq_emod (a := x) (b := 1073741788)
  by_cases hd : (1073741788 : Int) ∣ x
  · have h2 := Int.emod_eq_zero_of_dvd hd
    rw [if_pos (.inr hd)] at e
    omega
  · have h2 : x % 1073741788 ≠ 0 := fun h => hd (Int.dvd_of_emod_eq_zero h)
    rw [if_neg (by omega)] at e
    omega
end Go.Proofs.YtkjplpmogfmhkaaGreatDoor
