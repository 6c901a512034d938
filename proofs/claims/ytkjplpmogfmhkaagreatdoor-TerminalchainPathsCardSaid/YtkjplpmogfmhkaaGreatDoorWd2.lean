/- The padding: what both functions return. -/
import Derived.Test.YtkjplpmogfmhkaaGreatDoorWd1
import Derived.Test.YtkjplpmogfmhkaaGreatDoorS
namespace Go.Proofs.YtkjplpmogfmhkaaGreatDoor
open Go.RowKit
set_option linter.unusedVariables false

theorem refpad_any {b : Value} {l : List UInt8} (w : World) (hb : Rd w b (bvs l)) (h47 : l.length ≤ 140737488353000) :
    Calls Tryz.prog 267 #[b] w (RetB w (pad l)) := by
  have hb0 := hb
  obtain ⟨A, n, c, rfl, hn, hnc, hcm, hA⟩ := hb.bytes
  subst hn
  clear hA
  go_enter Tryz.func267, Tryz.ntmps267
  go_wp2_with (first
    | (refine appN hb0 (Below.refl _ w) (by omega) (Nat.le_refl _) rfl rfl rfl rfl ?_; intro A1 n1 c1 w1 hn1 o1 b1 g1)
    | (refine appB (o1.ext (Below.alloc (Below.refl _ _) (Nat.le_refl _) _)) (Rd.one w1 128) (b1.alloc b1.size _) (by simp; omega) (by have := b1.size; simp; omega) rfl rfl rfl rfl ?_; intro A2 n2 c2 w2 hn2 o2 b2 g2))
  clear g1 g2 o1 b1 hn1
  have hm8 : 8 * (l.length : Int) ≤ 1125899906842624 := by omega
  go_loopw [3] (fun v wr => ∃ k A n c, k ≤ zeros l.length ∧ n = l.length + 1 + k ∧ v = .slice A n c ∧ Own wr w.heap.size 5 (.slice A n c) (bvs (l ++ [128] ++ List.replicate k 0)) ∧ Below w.heap.size w wr)
    (fun v _ => l.length + 64 - lenV v)
  case atStart => exact ⟨0, A2, _, c2, Nat.zero_le _, by have := hn2.out; simpa using this, rfl, by simpa using o2, b2⟩
  case round =>
    obtain ⟨k, A3, n3, c3, hk, hn3, rfl, o3, b3⟩ := hrel
    have hz := zeros_lt l.length
    have hn3b : n3 ≤ l.length + 64 := by omega
    by_cases hlt : k = zeros l.length
    · have hm : ((n3 : Int) % 64 != 56) = false := by
        have := (zeros_hit hk).2 hlt
        simp; omega
      subst hlt
      have HN := Lib.hid hn3
      clear hn3 hn2 o2 b2
      go_wp2
      obtain ⟨p, hp⟩ : ∃ p, p = l ++ [128] ++ List.replicate (zeros l.length) 0 := ⟨_, rfl⟩
      rw [← hp] at o3
      have HP := Lib.hid hp
      clear hp
      have hpl : p.length ≤ l.length + 64 := by rw [HP.out]; simp; omega
      go_loopw [3, 5] (fun v i wr => ∃ k A n c, k ≤ 8 ∧ n = p.length + k ∧ v = .slice A n c ∧ i = .int .i64 (7 - (k : Int)) ∧ Own wr w.heap.size 5 (.slice A n c) (bvs (p ++ (be8 (8 * (l.length : Int))).take k)) ∧ Below w.heap.size w wr)
        (fun _ i _ => (intOf i + 1).toNat)
      case atStart => exact ⟨0, A3, _, c3, Nat.zero_le _, by rw [HP.out]; have := HN.out; simp; omega, rfl, by simp, by simpa using o3, b3⟩
      case round =>
        obtain ⟨k, A4, n4, c4, hk8, hn4, rfl, rfl, o4, b4⟩ := hrel
        by_cases h8 : k < 8
        · have HN4 := Lib.hid hn4
          clear hn4
          go_wp2_with (refine appB (o4.ext (Below.alloc (Below.refl _ _) (Nat.le_refl _) _)) (Rd.oneZ _ _) (b4.alloc b4.size _) (by have := HN4.out; simp; omega) (by have := b4.size; simp; omega) rfl rfl rfl rfl ?_; intro A5 n5 c5 w5 hn5 o5 b5 g5)
          go_roundw
          case rel => exact ⟨k + 1, A5, _, c5, by omega, by have h1 := hn5.out; have h2 := HN4.out; simp [be8_length] at h1; omega, rfl, by go_num, by rw [be8_step _ h8, ← List.append_assoc]; exact o5, b5⟩
          case measure => simp [intOf]; omega
        · obtain rfl : k = 8 := by omega
          go_wp2
          go_ret
          refine ⟨_, _, _, rfl, (show _ = _ by rw [pad_length, hn4, HP.out]; simp; omega), ?_, b4⟩
          have e : pad l = p ++ (be8 (8 * (l.length : Int))).take 8 := by rw [HP.out, List.take_of_length_le (by rw [be8_length]; omega)]; rfl
          rw [e]; exact o4
    · have hm : ((n3 : Int) % 64 != 56) = true := by
        have := zeros_hit hk
        simp; omega
      have HN := Lib.hid hn3
      clear hn3
      go_wp2_with (refine appB (o3.ext (Below.alloc (Below.refl _ _) (Nat.le_refl _) _)) (Rd.one _ 0) (b3.alloc b3.size _) (by simp; omega) (by have := b3.size; simp; omega) rfl rfl rfl rfl ?_; intro A4 n4 c4 w4 hn4 o4 b4 g4)
      go_roundw
      case rel => exact ⟨k + 1, A4, _, c4, by omega, by have := hn4.out; simp at this; omega, rfl, by rw [← rep_snoc]; exact o4, b4⟩
      case measure => have := hn4.out; have := HN.out; simp at *; simp [lenV]; omega

theorem digpad_any {b : Value} {l : List UInt8} (w : World) (hb : Rd w b (bvs l)) (h47 : l.length ≤ 140737488353000) :
    Calls Tryz.prog 279 #[b] w (RetB w (pad l)) := by
  have hb0 := hb
  obtain ⟨A, n, c, rfl, hn, hnc, hcm, hA⟩ := hb.bytes
  subst hn
  clear hA
  go_enter Tryz.func279, Tryz.ntmps279
  go_wp2_with (first
    | (go_at_call 288; refine (clone_any _ hb0 (by omega)).mono ?_; rintro e w1 ⟨A1, n1, c1, rfl, hn1, o1, b1⟩)
    | (refine appB (o1.ext (Below.alloc (Below.refl _ _) (Nat.le_refl _) _)) (Rd.one w1 128) (b1.alloc b1.size _) (by simp; omega) (by have := b1.size; simp; omega) rfl rfl rfl rfl ?_; intro A2 n2 c2 w2 hn2 o2 b2 g2))
  clear g2 o1 b1 hn1
  have hm8 : 8 * (l.length : Int) ≤ 1125899906842624 := by omega
  go_loopw [3] (fun v wr => ∃ k A n c, k ≤ zeros l.length ∧ n = l.length + 1 + k ∧ v = .slice A n c ∧ Own wr w.heap.size 5 (.slice A n c) (bvs (l ++ [128] ++ List.replicate k 0)) ∧ Below w.heap.size w wr)
    (fun v _ => l.length + 64 - lenV v)
  case atStart => exact ⟨0, A2, _, c2, Nat.zero_le _, by have := hn2.out; simpa using this, rfl, by simpa using o2, b2⟩
  case round =>
    obtain ⟨k, A3, n3, c3, hk, hn3, rfl, o3, b3⟩ := hrel
    have hz := zeros_lt l.length
    have hn3b : n3 ≤ l.length + 64 := by omega
    by_cases hlt : k = zeros l.length
    · have hm : ((n3 : Int) % 64 != 56) = false := by
        have := (zeros_hit hk).2 hlt
        simp; omega
      subst hlt
      have HN := Lib.hid hn3
      clear hn3 hn2 o2 b2
      obtain ⟨p, hp⟩ : ∃ p, p = l ++ [128] ++ List.replicate (zeros l.length) 0 := ⟨_, rfl⟩
      rw [← hp] at o3
      have HP := Lib.hid hp
      clear hp
      have hpl : p.length ≤ l.length + 64 := by rw [HP.out]; simp; omega
      go_wp2_with (first
        | (go_at_call 281; (with_reducible refine (bytesOf_any (8 * (l.length : Int) / 4294967296) _).mono ?_); rintro e w4 ⟨A4, n4, c4, rfl, hn4, o4, b4⟩)
        | (go_at_call 281; (with_reducible refine (bytesOf_any (8 * (l.length : Int) % 4294967296) _).mono ?_); rintro e w6 ⟨A6, n6, c6, rfl, hn6, o6, b6⟩)
        | (refine appB (o3.ext b4) o4.rd (b3.trans (b4.mono b3.size)) (by simp [be4]; omega) (by have := b3.size; have := b4.size; omega) rfl rfl rfl rfl ?_; intro A5 n5 c5 w5 hn5 o5 b5 g5)
        | (refine appB (o5.ext b6) o6.rd (b5.trans (b6.mono b5.size)) (by simp [be4]; omega) (by have := b5.size; have := b6.size; omega) rfl rfl rfl rfl ?_; intro A7 n7 c7 w7 hn7 o7 b7 g7))
      go_ret
      have e : pad l = p ++ be4 (8 * (l.length : Int) / 4294967296) ++ be4 (8 * (l.length : Int) % 4294967296) := by
        rw [List.append_assoc, be4_be8, HP.out]; rfl
      refine ⟨_, _, _, rfl, (show _ = _ by rw [hn7.out, e]; exact List.length_append.symm), ?_, b7⟩
      rw [e]; exact o7
    · have hm : ((n3 : Int) % 64 != 56) = true := by
        have := zeros_hit hk
        simp; omega
      have HN := Lib.hid hn3
      clear hn3
      go_wp2_with (refine appB (o3.ext (Below.alloc (Below.refl _ _) (Nat.le_refl _) _)) (Rd.one _ 0) (b3.alloc b3.size _) (by simp; omega) (by have := b3.size; simp; omega) rfl rfl rfl rfl ?_; intro A4 n4 c4 w4 hn4 o4 b4 g4)
      go_roundw
      case rel => exact ⟨k + 1, A4, _, c4, by omega, by have := hn4.out; simp at this; omega, rfl, by rw [← rep_snoc]; exact o4, b4⟩
      case measure => have := hn4.out; have := HN.out; simp at *; simp [lenV]; omega
end Go.Proofs.YtkjplpmogfmhkaaGreatDoor
