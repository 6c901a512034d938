/- Law 04: the walks of the laws. -/
import Derived.Test.YteihfboomegpkaaDoorWd8
import Derived.Test.YteihfboomegpkaaDoorShaV
import Derived.Test.YteihfboomegpkaaDoorKx
namespace Go.Proofs.YteihfboomegpkaaDoor
open Go.RowKit
set_option linter.unusedVariables false

def abcC : Array Value := #[.int .u8 97, .int .u8 98, .int .u8 99]
theorem rd3 (w : World) : Rd (w.alloc (.cells #[.int .u8 97, .int .u8 98, .int .u8 99] 5 (3, 4))) (.slice (some ⟨w.heap.size, 0, none⟩) 3 3) (bvs [97, 98, 99]) := Rd.litM w _ _ _ 3 rfl (by unfold maxLen; omega)

set_option maxRecDepth 100000 in
set_option maxHeartbeats 2000000 in
theorem awake4_any (w : World) (hk : KTab w 0) : Calls Tryd.prog 21 #[] w (RetQ w (.bool true)) := by
  have e0 : Ext w (w.alloc (.cells #[.int .u8 97, .int .u8 98, .int .u8 99] 5 (3, 4))) := (Below.refl _ _).alloc (Nat.le_refl _) _
  have HK := Lib.hid (hk.below e0)
  clear hk
  have kc : (convert 22 22 (.slice (some ⟨w.heap.size, 0, none⟩) 3 3)).run Tryd.prog (w.alloc (.cells #[.int .u8 97, .int .u8 98, .int .u8 99] 5)) = .ok (.slice (some ⟨w.heap.size, 0, none⟩) 3 3) (w.alloc (.cells #[.int .u8 97, .int .u8 98, .int .u8 99] 5 (3, 4))) :=
    Lib.run_convert_bytes_const (P := Tryd.prog) w 22 5 #[.int .u8 97, .int .u8 98, .int .u8 99] 3 3 Tryd.underlying22 Tryd.underlying5
  go_enter Tryd.func21, Tryd.ntmps21
  go_wp2_with (first
    | (go_at_call 28; refine (digsum_any _ (rd3 w) (by simp) HK.out).mono ?_; rintro e w1 ⟨A1, n1, c1, rfl, hn1, o1, b1⟩; obtain rfl : n1 = 32 := (by rw [hn1.out, sha_length]); have r1 := o1.rd; obtain ⟨h32, hcm⟩ := r1.caps; have h8 : 8 ≤ c1 := (by omega); clear hn1 o1)
    | (go_at_call 31; refine (hex_any _ (r1.take 8 (by omega)) (by rw [List.length_take]; omega)).mono ?_; rw [hex_abc8]; rintro e w2 ⟨rfl, b2⟩))
  go_ret
  exact ⟨rfl, (e0.tr b1).tr b2⟩

theorem pads_any {b : Value} {l : List UInt8} (w : World) (hb : Rd w b (bvs l)) (hl : l.length ≤ 140737488351232) (hk : KTab w 0) :
    Calls Tryd.prog 3 #[b] w (RetQ w (.bool true)) := by
  go_enter Tryd.func3, Tryd.ntmps3
  go_wp2_with (first
    | (go_at_call 21; refine (awake4_any _ hk).mono ?_; rintro e w1 ⟨rfl, b1⟩)
    | (go_at_call 23; refine (digpad_any _ (hb.ext b1) (by omega)).mono ?_; rintro e w2 ⟨A2, n2, c2, rfl, hn2, o2, b2⟩)
    | (go_at_call 24; refine (refpad_any _ ((hb.ext b1).ext b2) (by omega)).mono ?_; rintro e w3 ⟨A3, n3, c3, rfl, hn3, o3, b3⟩)
    | (go_at_call 22; refine (same_any _ (o2.rd.ext b3) o3.rd).mono ?_; rw [decide_eq_true rfl]; rintro e w4 ⟨rfl, b4⟩))
  go_ret
  exact ⟨rfl, ((b1.tr b2).tr b3).tr b4⟩

theorem sums_any {b : Value} {l : List UInt8} (w : World) (hb : Rd w b (bvs l)) (hl : l.length ≤ 140737488351232) (hk : KTab w 0) (hk2 : KTab w 1) :
    Calls Tryd.prog 5 #[b] w (RetQ w (.bool true)) := by
  go_enter Tryd.func5, Tryd.ntmps5
  go_wp2_with (first
    | (go_at_call 21; refine (awake4_any _ hk).mono ?_; rintro e w1 ⟨rfl, b1⟩)
    | (go_at_call 28; refine (digsum_any _ (hb.ext b1) (by omega) (hk.below b1)).mono ?_; rintro e w2 ⟨A2, n2, c2, rfl, hn2, o2, b2⟩)
    | (go_at_call 29; refine (refsum_any _ ((hb.ext b1).ext b2) (by omega) ((hk2.below b1).below b2)).mono ?_; rintro e w3 ⟨A3, n3, c3, rfl, hn3, o3, b3⟩)
    | (go_at_call 22; refine (same_any _ (o2.rd.ext b3) o3.rd).mono ?_; rw [decide_eq_true rfl]; rintro e w4 ⟨rfl, b4⟩))
  go_ret
  exact ⟨rfl, ((b1.tr b2).tr b3).tr b4⟩

theorem compresses_any {st blk : Value} {s : List Int} {l : List UInt8} (w : World) (hs : RdI w .u32 st s) (hb : Rd w blk (bvs l)) (hu : ∀ x ∈ s, U32 x) (hk : KTab w 0) (hk2 : KTab w 1) :
    Calls Tryd.prog 4 #[st, blk] w (RetQ w (.bool true)) := by
  by_cases h : s.length = 8 ∧ l.length = 64
  · obtain ⟨h8, h64⟩ := h
    have hu8 : (s8of s).u32 := by
      match s, h8, hu with
      | [a, b, c, d, e, f, g, h], _, hu => exact ⟨hu a (by simp), hu b (by simp), hu c (by simp), hu d (by simp), hu e (by simp), hu f (by simp), hu g (by simp), hu h (by simp)⟩
    have H8 := Lib.hid h8
    have H64 := Lib.hid h64
    clear h8 h64 hu
    go_enter Tryd.func4, Tryd.ntmps4
    go_wp2_with (first
      | (go_at_call 25; refine (digcomp_any _ hs hb H8.out H64.out hk hu8).mono ?_; rintro e w1 ⟨A1, c1, rfl, r1, b1⟩)
      | (go_at_call 26; refine (refcomp_any _ (Rd.ext hs b1) (hb.ext b1) H8.out H64.out (hk2.below b1)).mono ?_; rintro e w2 ⟨A2, c2, rfl, r2, b2⟩)
      | (go_at_call 21; refine (awake4_any _ ((hk.below b1).below b2)).mono ?_; rintro e w3 ⟨rfl, b3⟩)
      | (go_at_call 27; refine (wsame_any _ ((Rd.ext r1 b2).ext b3) (Rd.ext r2 b3)).mono ?_; rw [decide_eq_true rfl]; rintro e w4 ⟨rfl, b4⟩))
    go_ret
    exact ⟨rfl, ((b1.tr b2).tr b3).tr b4⟩
  · obtain ⟨A, n, c, rfl, hn, hnc, hcm, _⟩ := hs.ints
    obtain ⟨A2, n2, c2, rfl, hn2, hnc2, hcm2, _⟩ := hb.bytes
    subst hn hn2
    unfold maxLen at hcm hcm2
    have HH := Lib.hid h
    clear h hu hs hb
    go_enter Tryd.func4, Tryd.ntmps4
    go_wp2_with (first
      | (go_at_call 25; refine (digcomp_bad _ HH.out (by omega) (by omega)).mono ?_; rintro e w1 ⟨rfl, b1⟩)
      | (go_at_call 26; refine (refcomp_bad _ HH.out (by omega) (by omega)).mono ?_; rintro e w2 ⟨rfl, b2⟩)
      | (go_at_call 21; refine (awake4_any _ ((hk.below b1).below b2)).mono ?_; rintro e w3 ⟨rfl, b3⟩)
      | (go_at_call 27; refine (wsame_any (xs := []) (ys := []) _ (Rd.nil_ _) (Rd.nil_ _)).mono ?_; rw [decide_eq_true rfl]; rintro e w4 ⟨rfl, b4⟩))
    go_ret
    exact ⟨rfl, ((b1.tr b2).tr b3).tr b4⟩
end Go.Proofs.YteihfboomegpkaaDoor
