/- The digest's small functions: what each returns. -/
import Derived.Test.YteihfboomegpkaaDoorProg
import Derived.Test.YteihfboomegpkaaDoorB
import Derived.Deep.QuietTactic
import Derived.BigQuiet
namespace Go.Proofs.YteihfboomegpkaaDoor
open Go.RowKit
set_option linter.unusedVariables false

theorem bytesOf_any (x : Int) (w : World) :
    Calls Tryd.prog 63 #[.int .u32 x] w (RetB w (be4 x)) := by
  go_enter Tryd.func63, Tryd.ntmps63
  go_wp2
  go_ret
  refine ⟨_, _, _, rfl, (show _ = _ from rfl), ?_, (Below.refl _ _).alloc (Nat.le_refl _) _⟩
  rw [bvs_be4]
  exact Own.lit w _ _ 4 rfl (by unfold maxLen; omega)

theorem four_any (x : Int) (w : World) :
    Calls Tryd.prog 73 #[.int .i64 x] w (RetB w (be4 x)) := by
  go_enter Tryd.func73, Tryd.ntmps73
  go_wp2
  go_ret
  refine ⟨_, _, _, rfl, (show _ = _ from rfl), ?_, (Below.refl _ _).alloc (Nat.le_refl _) _⟩
  rw [bvs_be4]
  exact Own.lit w _ _ 4 rfl (by unfold maxLen; omega)

theorem same_any {a b : Value} {xs ys : List UInt8} (w : World) (ha : Rd w a (bvs xs)) (hb : Rd w b (bvs ys)) :
    Calls Tryd.prog 22 #[a, b] w (RetQ w (.bool (decide (xs = ys)))) := by
  obtain ⟨A, n1, c, rfl, hn1, hnc, hcm, hA⟩ := ha.bytes
  obtain ⟨A2, n2, c2, rfl, hn2, hnc2, hcm2, hB⟩ := hb.bytes
  subst hn1 hn2
  unfold maxLen at hcm hcm2
  by_cases hl : xs.length = ys.length
  · have hl1 : ((xs.length : Int) != (ys.length : Int)) = false := by simp [hl]
    have HL : Hid (xs.length = ys.length) := hl
    clear hl
    go_enter Tryd.func22, Tryd.ntmps22
    go_wp2
    go_loopw [5] (fun i wr => ∃ k : Nat, k ≤ xs.length ∧ i = .int .i64 k ∧ xs.take k = ys.take k ∧ ∃ n, wr = w.drewN n) (fun i _ => xs.length - (intOf i).toNat)
    case atStart => exact ⟨0, Nat.zero_le _, rfl, rfl, 0, rfl⟩
    case round =>
      obtain ⟨k, hk, rfl, hpre, n, rfl⟩ := hrel
      by_cases hlt : k < xs.length
      · obtain ⟨b1, o1, rfl, _, hc1⟩ := hA (by omega)
        obtain ⟨b2, o2, rfl, _, hc2⟩ := hB (by have := HL.out; omega)
        have h2 : k < ys.length := by have := HL.out; omega
        have d1 := hc1 k hlt
        have d2 := hc2 k h2
        have e1 : (0 : Int) ≤ (k : Int) := by omega
        have e2 : (k : Int) < (xs.length : Int) := by omega
        have e3 : (k : Int) < (ys.length : Int) := by omega
        have HP := Lib.hid hpre
        clear hpre hc1 hc2 hA hB
        go_wp2
        go_quiet (fail)
        go_wp2
        · go_wp2
          go_ret
          refine ⟨?_, Below.drewN_ (Ext.drewN_ _ _) _⟩
          have hne : (byteI xs k != byteI ys k) = true := by assumption
          have : xs ≠ ys := by
            rintro rfl
            simp at hne
          simp [this]
        · have hne : (byteI xs k != byteI ys k) = false := by assumption
          have he : xs[k] = ys[k] := byteI_inj hlt h2 (by simpa using hne)
          go_roundw
          case rel => exact ⟨k + 1, by omega, by go_num, take_snoc_eq HP.out hlt h2 he, n + nq, by simp⟩
          case measure => simp [intOf]; omega
      · go_wp2
        go_ret
        refine ⟨?_, Ext.drewN_ _ _⟩
        have := take_all hpre (by omega) HL.out
        simp [this]
  · have hl1 : ((xs.length : Int) != (ys.length : Int)) = true := by simp; omega
    go_enter Tryd.func22, Tryd.ntmps22
    go_wp2
    go_ret
    refine ⟨?_, Below.refl _ _⟩
    have : xs ≠ ys := by
      rintro rfl
      exact hl rfl
    simp [this]

/-- A copy in new memory. -/
theorem clone_any {b : Value} {xs : List UInt8} (w : World) (hb : Rd w b (bvs xs)) (h47 : xs.length ≤ 140737488355328) :
    Calls Tryd.prog 62 #[b] w (RetB w xs) := by
  have hb0 := hb
  obtain ⟨A, n, c, rfl, hn, hnc, hcm, hA⟩ := hb.bytes
  subst hn
  have q := fun (w : World) (A : Option Addr) (n c : Nat) => Lib.run_eql_slice_nil (P := Tryd.prog) w 22 5 A n c 0 0 Tryd.underlying22
  cases A with
  | none =>
    have : xs = [] := by
      cases xs with
      | nil => rfl
      | cons x xs => obtain ⟨b, o, h, _, _⟩ := hA (by simp); cases h
    subst this
    clear hA hb0 hb
    go_enter Tryd.func62, Tryd.ntmps62
    go_wp2
    go_ret
    exact ⟨none, 0, 0, rfl, (show _ = _ from rfl), Own.nil_ _ _ _, Below.refl _ _⟩
  | some ad =>
    clear hA
    go_enter Tryd.func62, Tryd.ntmps62
    go_wp2_with (refine appN (B := w.heap.size) (hb0.ext ((Below.refl _ _).alloc (Nat.le_refl _) _)) ((Below.refl _ w).alloc (Nat.le_refl _) _) h47 (by simp) rfl rfl rfl rfl ?_; intro A1 n1 c1 w1 hn1 o1 b1 g1)
    go_ret
    exact ⟨_, _, _, rfl, hn1, o1, b1⟩

theorem join_any {a b : Value} {xs ys : List UInt8} (w : World) (ha : Rd w a (bvs xs)) (hb : Rd w b (bvs ys)) (h47 : xs.length + ys.length ≤ 140737488355328) :
    Calls Tryd.prog 72 #[a, b] w (RetB w (xs ++ ys)) := by
  have ha0 := ha
  have hb0 := hb
  obtain ⟨A, n, c, rfl, hn, hnc, hcm, hA⟩ := ha.bytes
  obtain ⟨A2, n2, c2, rfl, hn2, hnc2, hcm2, hB⟩ := hb.bytes
  subst hn hn2
  clear hA hB
  go_enter Tryd.func72, Tryd.ntmps72
  go_wp2_with (first
    | (refine appN ha0 (Below.refl _ w) (by omega) (Nat.le_refl _) rfl rfl rfl rfl ?_; intro A1 n1 c1 w1 hn1 o1 b1 g1)
    | (refine appB o1 (hb0.below b1) b1 h47 b1.size rfl rfl rfl rfl ?_; intro A2 n2 c2 w2 hn2 o2 b2 g2))
  go_ret
  exact ⟨_, _, _, rfl, (show _ = _ by rw [List.length_append]; exact hn2.out), o2, b2⟩
end Go.Proofs.YteihfboomegpkaaDoor
