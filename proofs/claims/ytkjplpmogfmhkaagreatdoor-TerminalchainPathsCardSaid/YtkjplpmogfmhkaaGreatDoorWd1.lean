/- The digest's small functions: what each returns. -/
import Derived.Test.YtkjplpmogfmhkaaGreatDoorProg
import Derived.Test.YtkjplpmogfmhkaaGreatDoorB
import Derived.Deep.QuietTactic
import Derived.BigQuiet
namespace Go.Proofs.YtkjplpmogfmhkaaGreatDoor
open Go.RowKit
set_option linter.unusedVariables false

theorem bytesOf_any (x : Int) (w : World) :
    Calls Tryz.prog 281 #[.int .u32 x] w (RetB w (be4 x)) := by
  go_enter Tryz.func281, Tryz.ntmps281
  go_wp2
  go_ret
  refine ⟨_, _, _, rfl, (show _ = _ from rfl), ?_, (Below.refl _ _).alloc (Nat.le_refl _) _⟩
  rw [bvs_be4]
  exact Own.lit w _ _ 4 rfl (by unfold maxLen; omega)

theorem four_any (x : Int) (w : World) :
    Calls Tryz.prog 222 #[.int .i64 x] w (RetB w (be4 x)) := by
  go_enter Tryz.func222, Tryz.ntmps222
  go_wp2
  go_ret
  refine ⟨_, _, _, rfl, (show _ = _ from rfl), ?_, (Below.refl _ _).alloc (Nat.le_refl _) _⟩
  rw [bvs_be4]
  exact Own.lit w _ _ 4 rfl (by unfold maxLen; omega)

/-- A copy in new memory. -/
theorem clone_any {b : Value} {xs : List UInt8} (w : World) (hb : Rd w b (bvs xs)) (h47 : xs.length ≤ 140737488355328) :
    Calls Tryz.prog 288 #[b] w (RetB w xs) := by
  have hb0 := hb
  obtain ⟨A, n, c, rfl, hn, hnc, hcm, hA⟩ := hb.bytes
  subst hn
  have q := fun (w : World) (A : Option Addr) (n c : Nat) => Lib.run_eql_slice_nil (P := Tryz.prog) w 89 5 A n c 0 0 Tryz.underlying89
  cases A with
  | none =>
    have : xs = [] := by
      cases xs with
      | nil => rfl
      | cons x xs => obtain ⟨b, o, h, _, _⟩ := hA (by simp); cases h
    subst this
    clear hA hb0 hb
    go_enter Tryz.func288, Tryz.ntmps288
    go_wp2
    go_ret
    exact ⟨none, 0, 0, rfl, (show _ = _ from rfl), Own.nil_ _ _ _, Below.refl _ _⟩
  | some ad =>
    clear hA
    go_enter Tryz.func288, Tryz.ntmps288
    go_wp2_with (refine appN (B := w.heap.size) (hb0.ext ((Below.refl _ _).alloc (Nat.le_refl _) _)) ((Below.refl _ w).alloc (Nat.le_refl _) _) h47 (by simp) rfl rfl rfl rfl ?_; intro A1 n1 c1 w1 hn1 o1 b1 g1)
    go_ret
    exact ⟨_, _, _, rfl, hn1, o1, b1⟩

theorem join_any {a b : Value} {xs ys : List UInt8} (w : World) (ha : Rd w a (bvs xs)) (hb : Rd w b (bvs ys)) (h47 : xs.length + ys.length ≤ 140737488355328) :
    Calls Tryz.prog 221 #[a, b] w (RetB w (xs ++ ys)) := by
  have ha0 := ha
  have hb0 := hb
  obtain ⟨A, n, c, rfl, hn, hnc, hcm, hA⟩ := ha.bytes
  obtain ⟨A2, n2, c2, rfl, hn2, hnc2, hcm2, hB⟩ := hb.bytes
  subst hn hn2
  clear hA hB
  go_enter Tryz.func221, Tryz.ntmps221
  go_wp2_with (first
    | (refine appN ha0 (Below.refl _ w) (by omega) (Nat.le_refl _) rfl rfl rfl rfl ?_; intro A1 n1 c1 w1 hn1 o1 b1 g1)
    | (refine appB o1 (hb0.below b1) b1 h47 b1.size rfl rfl rfl rfl ?_; intro A2 n2 c2 w2 hn2 o2 b2 g2))
  go_ret
  exact ⟨_, _, _, rfl, (show _ = _ by rw [List.length_append]; exact hn2.out), o2, b2⟩
end Go.Proofs.YtkjplpmogfmhkaaGreatDoor
