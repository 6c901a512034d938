/- The mill: numbers, secrets, nonces; the holders of terminal certificates. -/
import Derived.Test.YtkjplpmogfmhkaaGreatDoorGs
import Derived.Test.YtkjplpmogfmhkaaGreatDoorKx
namespace Go.Proofs.YtkjplpmogfmhkaaGreatDoor
open Go.RowKit
set_option linter.unusedVariables false
set_option maxRecDepth 100000

def modI (x m : Int) : Int := if m < 1 then 0 else x % m
theorem modI_pos {x m : Int} (h : 1 ≤ m) : modI x m = x % m := if_neg (by omega)
theorem modI_bd {x m : Int} (h : 1 ≤ m) : 0 ≤ modI x m ∧ modI x m < m := by rw [modI_pos h]; exact ⟨Int.emod_nonneg _ (by omega), Int.emod_lt_of_pos _ (by omega)⟩
theorem tmod_bd {x m : Int} (h : 1 ≤ m) : -m < x.tmod m ∧ x.tmod m < m := by
  have h1 := Int.tmod_lt_of_pos x (show 0 < m by omega)
  have h2 := Int.tmod_lt_of_pos (-x) (show 0 < m by omega)
  rw [Int.neg_tmod] at h2
  omega
theorem tmod_add_mod {x m : Int} (h : 1 ≤ m) : (x.tmod m + m) % m = x % m := by
  rw [Int.add_emod_right]
  have e := Int.tmod_add_mul_tdiv x m
  conv => rhs; rw [← e]
  rw [Int.add_mul_emod_self_left]
theorem mod_any (x m : Int) (w : World) (x0 : -9223372036854775808 ≤ x) (x1 : x < 9223372036854775808) (hm : m ≤ 4611686018427387904) : Calls Tryz.prog 30 #[.int .i64 x, .int .i64 m] w fun e w' => e = .returned (.int .i64 (modI x m)) ∧ w = w' := by
  by_cases h : m < 1
  · rw [modI, if_pos h]
    go_enter Tryz.func30, Tryz.ntmps30
    go_wp2
    go_ret
    exact ⟨rfl, rfl⟩
  · have h1 : 1 ≤ m := by omega
    rw [modI_pos h1]
    by_cases hx : 0 ≤ x
    · have q0 := Int.emod_nonneg x (show m ≠ 0 by omega)
      have q1 := Int.emod_lt_of_pos x (show 0 < m by omega)
      have H := Lib.hid (show (x % m + m) % m = x % m by rw [Int.add_emod_right, Int.emod_emod])
      go_enter Tryz.func30, Tryz.ntmps30
      go_wp2
      go_ret
      exact ⟨by rw [← H.out]; rfl, rfl⟩
    · obtain ⟨q0, q1⟩ := tmod_bd (x := x) h1
      have H := Lib.hid (show x.tmod m % m = x % m by have := tmod_add_mod (x := x) h1; rwa [Int.add_emod_right] at this)
      go_enter Tryz.func30, Tryz.ntmps30
      go_wp2
      go_ret
      exact ⟨by rw [← H.out]; rfl, rfl⟩
theorem nearI_mod (x : Int) : 1 + modI x 1073741788 = nearI x := by rw [modI_pos (by omega)]; rfl
theorem secretM_any (x : Int) (w : World) (x0 : -9223372036854775808 ≤ x) (x1 : x < 9223372036854775808) : Calls Tryz.prog 128 #[.int .i64 x] w fun e w' => e = .returned (.tuple #[.int .i64 (nearI x), .int .i64 (pw 4 (nearI x))]) ∧ w = w' := by
  obtain ⟨b0, b1⟩ := modI_bd (x := x) (m := 1073741788) (by omega)
  have H := Lib.hid (nearI_mod x)
  go_enter Tryz.func128, Tryz.ntmps128
  go_wp2_with fail
  refine (mod_any _ _ _ x0 x1 (by omega)).mono ?_
  rintro e w' ⟨rfl, rfl⟩
  go_wp2_with fail
  rw [H.out]
  refine (refpublic_yes _ _ (near_in x)).mono ?_
  rintro e w' ⟨rfl, rfl⟩
  go_wp2_with fail
  go_ret2
  exact ⟨rfl, rfl⟩
/-- Eight bytes out of a number. -/
def nonceB (x : Int) (i : Nat) : UInt8 := u8 (modI (wrap64 (x + (i : Int) * (i : Int))) 251)
def nonceL (x : Int) : List UInt8 := (List.range 8).map (nonceB x)
theorem nonceL_length (x : Int) : (nonceL x).length = 8 := by simp [nonceL]
theorem nonceL_step (x : Int) {k : Nat} (h : k < 8) : (nonceL x).take (k + 1) = (nonceL x).take k ++ [nonceB x k] := by
  rw [List.take_succ_eq_append_getElem (by rw [nonceL_length]; exact h)]
  simp [nonceL]
theorem wrap_bd (x : Int) : -9223372036854775808 ≤ wrap64 x ∧ wrap64 x < 9223372036854775808 := by unfold wrap64; omega
/-- The secret of a holder by its name. -/
def secName (l : List UInt8) : Int := l.foldl (fun n c => (n * 131 + (c.toNat : Int)) % 100003) 7
theorem secName_snoc (l : List UInt8) (c : UInt8) : secName (l ++ [c]) = (secName l * 131 + (c.toNat : Int)) % 100003 := by simp [secName]
theorem secName_step {l : List UInt8} {k : Nat} (h : k < l.length) : secName (l.take (k + 1)) = (secName (l.take k) * 131 + byteI l k) % 100003 := by
  rw [List.take_succ_eq_append_getElem h, secName_snoc, byteI_get h]
theorem secName_bd (l : List UInt8) : 0 ≤ secName l ∧ secName l < 100003 := by
  cases hl : l.reverse with
  | nil =>
    obtain rfl : l = [] := by simpa using hl
    decide
  | cons c r =>
    have e : l = r.reverse ++ [c] := by have := congrArg List.reverse hl; simpa using this
    rw [e, secName_snoc]
    omega
set_option maxHeartbeats 400000 in
theorem secretOf_any (s : ByteArray) (w : World) (hs : s.size ≤ maxLen) : Calls Tryz.prog 193 #[.string s] w fun e w' => e = .returned (.int .i64 (secName s.data.toList + 1)) ∧ w = w' := by
  unfold maxLen at hs
  have hsz : s.data.toList.length = s.size := by simp
  go_enter Tryz.func193, Tryz.ntmps193
  go_wp2
  go_loop [3, 4] (fun n i => ∃ k : Nat, k ≤ s.size ∧ i = .int .i64 k ∧ n = .int .i64 (secName (s.data.toList.take k))) (fun _ i => s.size - (intOf i).toNat)
  case atStart => exact ⟨0, Nat.zero_le _, rfl, rfl⟩
  case round =>
    obtain ⟨k, hk, rfl, rfl⟩ := hrel
    obtain ⟨b0, b1⟩ := secName_bd (s.data.toList.take k)
    by_cases hlt : k < s.size
    · have HS := Lib.hid (secName_step (l := s.data.toList) (k := k) (by omega))
      have hb : s.data.toList[k]'(by omega) = s[k] := rfl
      have q := byteI_get (l := s.data.toList) (i := k) (by omega)
      have HQ := Lib.hid (q.trans (by rw [hb]))
      have q2 : (s[k].toNat : Int) < 256 := by have := UInt8.toNat_lt s[k]; omega
      clear q hb
      go_wp2
      go_round
      case rel => exact ⟨k + 1, by omega, by go_num, by rw [HS.out, HQ.out]⟩
      case measure => simp [intOf]; omega
    · obtain rfl : k = s.size := by omega
      rw [List.take_of_length_le (by omega)] at b0 b1 ⊢
      go_wp2
      go_ret
      exact ⟨rfl, rfl⟩
def holderK (l : List UInt8) : Int := nearI (secName l)
theorem holder_any (s : ByteArray) (w : World) (hs : s.size ≤ maxLen) : Calls Tryz.prog 112 #[.string s] w fun e w' => e = .returned (.int .i64 (pw 4 (holderK s.data.toList))) ∧ w = w' := by
  obtain ⟨b0, b1⟩ := secName_bd s.data.toList
  go_enter Tryz.func112, Tryz.ntmps112
  go_wp2_with fail
  refine (secretOf_any _ _ hs).mono ?_
  rintro e w' ⟨rfl, rfl⟩
  go_wp2_with fail
  refine (secretM_any _ _ (by omega) (by omega)).mono ?_
  rintro e w' ⟨rfl, rfl⟩
  go_wp2_with fail
  go_ret
  exact ⟨rfl, rfl⟩
theorem tsecret_any (s : ByteArray) (w : World) (hs : s.size ≤ maxLen) : Calls Tryz.prog 180 #[.string s] w fun e w' => e = .returned (.int .i64 (holderK s.data.toList)) ∧ w = w' := by
  obtain ⟨b0, b1⟩ := secName_bd s.data.toList
  go_enter Tryz.func180, Tryz.ntmps180
  go_wp2_with fail
  refine (secretOf_any _ _ hs).mono ?_
  rintro e w' ⟨rfl, rfl⟩
  go_wp2_with fail
  refine (secretM_any _ _ (by omega) (by omega)).mono ?_
  rintro e w' ⟨rfl, rfl⟩
  go_wp2_with fail
  go_ret
  exact ⟨rfl, rfl⟩
end Go.Proofs.YtkjplpmogfmhkaaGreatDoor
