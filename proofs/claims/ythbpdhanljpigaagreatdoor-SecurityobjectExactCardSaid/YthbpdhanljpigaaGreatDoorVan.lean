/- Parts Cc of the proof. -/
import Derived.Test.YthbpdhanljpigaaGreatDoorVam
import Derived.Test.YthbpdhanljpigaaGreatDoorVah
import Derived.Lib.AppendZeros
namespace Go.Proofs.YthbpdhanljpigaaGreatDoor
open Go.RowKit
set_option linter.unusedVariables false
set_option maxRecDepth 100000
theorem tI : Tryz.prog.underlying 3 = some (.int .i64) := by kernel_rfl
theorem grow0_any (n : Nat) (w : World) (h47 : n ≤ 140737488355328) :
    Calls Tryz.prog 160 #[.slice none 0 0, .int .i64 n] w fun e w' => ∃ A c, e = .returned (.slice A 0 c) ∧ Own w' w.heap.size 5 (.slice A 0 c) (bvs []) ∧ Ext w w' := by
  by_cases hn : 0 < n
  · obtain ⟨i0, hi, hz0, hz1, hz2⟩ := info_parts (show (Tryz.prog.info? 5).map (fun i => (i.zero, i.size, i.bytes)) = some (some (.int .u8 0), 1, 1) by kernel_rfl)
    have hrun := Lib.run_append_nil_zeros (P := Tryz.prog) w 26 3 26 5 i0 (.int .u8 0) .i64 .i64 Tryz.underlying26 tI hi hz0 n hn (by omega) (by omega) (by rw [hz2]; omega)
    have HR := Lib.hid hrun
    clear hrun
    go_enter Tryz.func160, Tryz.ntmps160
    go_wp2_with (at_builtin; refine Lib.wpList_append_run _ rfl _ _ _ _ rfl _ _ rfl rfl _ _ HR.out ?_)
    go_ret
    refine ⟨_, _, rfl, ⟨_, 0, _, rfl, rfl, .inr ⟨w.heap.size, _, rfl, Nat.le_refl _, heap_alloc_new _ _, Nat.zero_le _, ?_, ?_, rfl⟩⟩, ?_⟩
    · exact grownCap_le_maxLen _ _ _ _ (by unfold maxLen; omega)
    · have := grownCap_ge w n 0 5
      rw [Array.size_append, size_zeroCells, size_zeroCells]
      simp
      omega
    · exact ((Below.refl _ _).alloc (Nat.le_refl _) _).drew
  · obtain rfl : n = 0 := by omega
    go_enter Tryz.func160, Tryz.ntmps160
    go_wp2
    go_ret
    exact ⟨_, _, rfl, Own.nil_ _ _ _, Below.refl _ _⟩
theorem grow0_int (z : Int) (w : World) (h0 : 0 ≤ z) (h47 : z ≤ 140737488355328) :
    Calls Tryz.prog 160 #[.slice none 0 0, .int .i64 z] w fun e w' => ∃ A c, e = .returned (.slice A 0 c) ∧ Own w' w.heap.size 5 (.slice A 0 c) (bvs []) ∧ Ext w w' := by
  obtain ⟨n, rfl⟩ := Int.eq_ofNat_of_zero_le h0
  exact grow0_any n w (by omega)
/-- Where loop 1 stands. -/
def Sz2 (n1 n2 : Nat) (v i : Value) : Prop := (i = .int .i64 0 ∧ v = .int .i64 0) ∨ (i = .int .i64 1 ∧ v = .int .i64 n1) ∨ (i = .int .i64 2 ∧ v = .int .i64 (n1 + n2))
/-- Where loop 2 stands. -/
def Cc2 (w : World) (xs ys : List UInt8) (v i : Value) (wr : World) : Prop :=
  ∃ A n c, v = .slice A n c ∧ Ext w wr ∧ ((i = .int .i64 0 ∧ Own wr w.heap.size 5 (.slice A n c) (bvs [])) ∨ (i = .int .i64 1 ∧ Own wr w.heap.size 5 (.slice A n c) (bvs xs)) ∨ (i = .int .i64 2 ∧ Hid (n = xs.length + ys.length) ∧ Own wr w.heap.size 5 (.slice A n c) (bvs (xs ++ ys))))
set_option maxHeartbeats 1000000 in
theorem concat2_any {a b : Value} {xs ys : List UInt8} {g : Nat} {t : TypeId} {fr : Nat × Nat} (w : World) (hg : w.heap[g]? = some (.cells #[a, b] t fr)) (ha : Rd w a (bvs xs)) (hb : Rd w b (bvs ys)) (h47 : xs.length + ys.length ≤ 140737488355328) :
    Calls Tryz.prog 130 #[.slice (some ⟨g, 0, none⟩) 2 2] w (RetB w (xs ++ ys)) := by
  have c0 : w.cell? ⟨g, 0, none⟩ = some a := by rw [cell_of_row w g 0 _ t fr hg]; rfl
  have c1 : w.cell? ⟨g, 1, none⟩ = some b := by rw [cell_of_row w g 1 _ t fr hg]; rfl
  have hgl := block_lt hg
  have ha0 := ha
  have hb0 := hb
  obtain ⟨A, n1, c, rfl, hn1, hnc, hcm, hA⟩ := ha.bytes
  obtain ⟨A2, n2, c2, rfl, hn2, hnc2, hcm2, hB⟩ := hb.bytes
  subst hn1 hn2
  unfold maxLen at hcm hcm2
  clear hA hB hg ha hb
  go_enter Tryz.func130, Tryz.ntmps130
  go_wp2
  go_loop [3, 5, 11] (fun v _ i => Sz2 xs.length ys.length v i) (fun _ _ i => 2 - (intOf i).toNat)
  case atStart => exact .inl ⟨rfl, rfl⟩
  case round =>
    rcases hrel with ⟨rfl, rfl⟩ | ⟨rfl, rfl⟩ | ⟨rfl, rfl⟩
    · go_wp2
      go_round
      case rel => exact .inr (.inl ⟨rfl, rfl⟩)
      case measure => simp [intOf]
    · go_wp2
      go_round
      case rel => exact .inr (.inr ⟨rfl, rfl⟩)
      case measure => simp [intOf]
    · go_wp2_with fail
      refine (grow0_int _ _ (by omega) (by omega)).mono ?_
      rintro e w1 ⟨A1, c1', rfl, o1, b1⟩
      have C0 := Lib.hid c0
      have C1 := Lib.hid c1
      clear c0 c1
      go_wp2_with fail
      go_loopw [6, 8, 27] (fun v _ i wr => Cc2 w xs ys v i wr) (fun _ _ i _ => 2 - (intOf i).toNat)
      case atStart => exact ⟨_, _, _, rfl, b1, .inl ⟨rfl, o1⟩⟩
      case round =>
        obtain ⟨A3, n3, c3, rfl, b3, hrel⟩ := hrel
        rcases hrel with ⟨rfl, o3⟩ | ⟨rfl, o3⟩ | ⟨rfl, hn3, o3⟩
        · have d0 : wr.cell? ⟨g, 0, none⟩ = some (.slice A xs.length c) := (b3.cell hgl).trans C0.out
          go_wp2_with (refine appB o3 (ha0.ext b3) b3 (by simp; omega) b3.size rfl rfl rfl rfl ?_; intro A4 n4 c4 w4 hn4 o4 b4 g4)
          go_roundw
          case rel => exact ⟨_, _, _, rfl, b4, .inr (.inl ⟨rfl, by simpa using o4⟩)⟩
          case measure => simp [intOf]
        · have d1 : wr.cell? ⟨g, 1, none⟩ = some (.slice A2 ys.length c2) := (b3.cell hgl).trans C1.out
          go_wp2_with (refine appB o3 (hb0.ext b3) b3 (by omega) b3.size rfl rfl rfl rfl ?_; intro A4 n4 c4 w4 hn4 o4 b4 g4)
          go_roundw
          case rel => exact ⟨_, _, _, rfl, b4, .inr (.inr ⟨rfl, hn4, o4⟩)⟩
          case measure => simp [intOf]
        · go_wp2
          go_ret
          exact ⟨_, _, _, rfl, (show _ = _ by rw [List.length_append]; exact hn3.out), o3, b3⟩
end Go.Proofs.YthbpdhanljpigaaGreatDoor
