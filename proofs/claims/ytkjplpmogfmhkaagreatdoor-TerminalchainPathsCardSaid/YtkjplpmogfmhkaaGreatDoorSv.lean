/- Layer 9: Verify. -/
import Derived.Test.YtkjplpmogfmhkaaGreatDoorSg
namespace Go.Proofs.YtkjplpmogfmhkaaGreatDoor
open Go.RowKit
set_option linter.unusedVariables false
set_option maxRecDepth 100000

/-- What Verify reports. -/
def verB (p : Int) (l : List UInt8) (e s : Int) : Bool := isElem p && inB 0 1073741789 e && inB 0 1073741789 s && (hnum (pw 4 s * pw p (1073741789 - e) % 2147483579) l 1073741789 == e)
theorem verB_p {p : Int} {l : List UInt8} {e s : Int} (h : isElem p = false) : verB p l e s = false := by simp [verB, h]
theorem verB_e {p : Int} {l : List UInt8} {e s : Int} (h : inB 0 1073741789 e = false) : verB p l e s = false := by simp [verB, h]
theorem verB_s {p : Int} {l : List UInt8} {e s : Int} (h : inB 0 1073741789 s = false) : verB p l e s = false := by simp [verB, h]
theorem verB_eq {p : Int} {l : List UInt8} {e s : Int} (h1 : isElem p = true) (h2 : inB 0 1073741789 e = true) (h3 : inB 0 1073741789 s = true) : verB p l e s = (hnum (pw 4 s * pw p (1073741789 - e) % 2147483579) l 1073741789 == e) := by simp [verB, h1, h2, h3]
theorem multiply_any (x y : Int) (w : World) (x0 : 0 ≤ x) (x1 : x < 2147483579) (y0 : 0 ≤ y) (y1 : y < 2147483579) : Calls Tryz.prog 250 #[.int .i64 x, .int .i64 y] w fun e w' => (∃ k, e = .returned (.tuple #[.int .i64 (x * y % 2147483579), .int .i64 k])) ∧ w = w' := by
  by_cases hx : x = 0
  · subst hx
    have h : inB 1 2147483579 0 = false := inB_no (by omega)
    rw [Int.zero_mul]
    go_enter Tryz.func250, Tryz.ntmps250
    go_wp2_with (go_at_call 265; refine (residue_any _ _).mono ?_; rw [h]; rintro e w' ⟨rfl, rfl⟩)
    go_ret2
    exact ⟨⟨_, rfl⟩, rfl⟩
  · have hi : inB 1 2147483579 x = true := inB_yes (by omega) x1
    by_cases hy : y = 0
    · subst hy
      have h : inB 1 2147483579 0 = false := inB_no (by omega)
      rw [Int.mul_zero]
      go_enter Tryz.func250, Tryz.ntmps250
      go_wp2_with fail
      refine (residue_any _ _).mono ?_
      rw [hi]
      rintro e w' ⟨rfl, rfl⟩
      go_wp2_with fail
      refine (residue_any _ _).mono ?_
      rw [h]
      rintro e w' ⟨rfl, rfl⟩
      go_wp2_with fail
      go_ret2
      exact ⟨⟨_, rfl⟩, rfl⟩
    · exact (multiply_yes x y w hi (inB_yes (by omega) y1)).mono fun e w' ⟨h1, h2⟩ => ⟨⟨_, h1⟩, h2⟩
set_option maxHeartbeats 1000000 in
theorem verify_any {a : Value} {l : List UInt8} (p e s : Int) (w : World) (ha : Rd w a (bvs l)) (hl : l.length ≤ 140737488352000) (E : KTab w 1) :
    Calls Tryz.prog 205 #[.int .i64 p, a, .agg #[.int .i64 e, .int .i64 s]] w (RetQ w (.bool (verB p l e s))) := by
  have e0 : Ext w (w.alloc (.cells #[.int .i64 e, .int .i64 s] 33)) := (Below.refl _ _).alloc (Nat.le_refl _) _
  by_cases hp : isElem p = true
  · by_cases he : inB 0 1073741789 e = true
    · by_cases hs : inB 0 1073741789 s = true
      · rw [verB_eq hp he hs]
        obtain ⟨p0, p1⟩ := isElem_in hp
        have hpi := inB_yes p0 p1
        obtain ⟨g0, g1⟩ := inB_true he
        obtain ⟨s0, s1⟩ := inB_true hs
        have HL := Lib.hid he
        clear he
        have ha0 := ha
        obtain ⟨A, n1, c, rfl, hn1, hnc, hcm, hA⟩ := ha.bytes
        subst hn1
        clear hA ha
        go_enter Tryz.func205, Tryz.ntmps205
        go_wp2_with fail
        refine (element_any _ _).mono ?_
        rw [hp]
        rintro e' w' ⟨rfl, rfl⟩
        go_wp2_with fail
        refine (exponent_any _ _).mono ?_
        rw [HL.out]
        rintro e' w' ⟨rfl, rfl⟩
        go_wp2_with fail
        refine (exponent_any _ _).mono ?_
        rw [hs]
        rintro e' w' ⟨rfl, rfl⟩
        go_wp2_with fail
        refine (gpower_yes _ _ _ in4 (by omega) (by omega)).mono ?_
        rintro e' w' ⟨rfl, rfl⟩
        go_wp2_with fail
        refine (gpower_yes _ _ _ hpi (by omega) (by omega)).mono ?_
        rintro e' w' ⟨rfl, rfl⟩
        have q0 := pw_lo 4 s
        have q1 := pw_hi 4 s
        have q2 := pw_lo p (1073741789 - e)
        have q3 := pw_hi p (1073741789 - e)
        go_wp2_with fail
        refine (multiply_any _ _ _ q0 q1 q2 q3).mono ?_
        rintro e' w' ⟨⟨k, rfl⟩, rfl⟩
        obtain ⟨r0, r1⟩ := mul_bd (a := pw 4 s) (b := pw p (1073741789 - e))
        go_wp2_with fail
        have cs : ∀ W : World, Ext (w.alloc (.cells #[.int .i64 e, .int .i64 s] 33)) W → W.cell? ⟨w.heap.size, 0, none⟩ = some (.int .i64 e) := fun W h => (h.cell (p := ⟨w.heap.size, 0, none⟩) (by simp)).trans (by go_simp)
        have CS := Lib.hid cs
        clear cs
        refine wp_region_X 5 (by kernel_rfl) (by kernel_rfl) ?_
        simp only [List.take_succ_cons, List.take_zero, List.drop_succ_cons, List.drop_zero]
        intro w1 hw1
        have L : ∀ m : Lt w1, Ext (w.alloc (.cells #[.int .i64 e, .int .i64 s] 33)) m.1 := fun m => hw1.tr m.2
        have cs : ∀ m : Lt w1, m.1.cell? ⟨w.heap.size, 0, none⟩ = some (.int .i64 e) := fun m => CS.out _ (L m)
        repeat (refine wpX_pure rfl rfl rfl rfl rfl (fun K hK => ?_); go_big_quiet_op; refine hK _ ?_; clear hK K)
        refine wpX_callFn (.int .i64 (hnum (pw 4 s * pw p (1073741789 - e) % 2147483579) l 1073741789)) rfl rfl rfl rfl (by kernel_rfl) rfl rfl (fun m => number_h _ _ _ (ha0.ext (e0.tr (L m))) (by omega) (by omega) (by omega) (by omega) (E.below (e0.tr (L m)))) ?_
        simp only [Act.put, List.setIfInBounds_toArray, List.set_cons_zero, List.set_cons_succ]
        repeat (refine wpX_pure rfl rfl rfl rfl rfl (fun K hK => ?_); go_big_quiet_op; refine hK _ ?_; clear hK K)
        refine wpX_end0 (fun m => ?_)
        have Lm := L m
        obtain ⟨wy, hwy⟩ := m
        clear L cs
        go_wp2_with fail
        go_ret
        exact ⟨rfl, e0.tr Lm⟩
      · have hs' := not_true hs
        rw [verB_s hs']
        go_enter Tryz.func205, Tryz.ntmps205
        go_wp2_with fail
        refine (element_any _ _).mono ?_
        rw [hp]
        rintro e' w' ⟨rfl, rfl⟩
        go_wp2_with fail
        refine (exponent_any _ _).mono ?_
        rw [he]
        rintro e' w' ⟨rfl, rfl⟩
        go_wp2_with fail
        refine (exponent_any _ _).mono ?_
        rw [hs']
        rintro e' w' ⟨rfl, rfl⟩
        go_wp2_with fail
        go_ret
        exact ⟨rfl, e0⟩
    · have he' := not_true he
      rw [verB_e he']
      go_enter Tryz.func205, Tryz.ntmps205
      go_wp2_with fail
      refine (element_any _ _).mono ?_
      rw [hp]
      rintro e' w' ⟨rfl, rfl⟩
      go_wp2_with fail
      refine (exponent_any _ _).mono ?_
      rw [he']
      rintro e' w' ⟨rfl, rfl⟩
      go_wp2_with fail
      go_ret
      exact ⟨rfl, e0⟩
  · have hp' := not_true hp
    rw [verB_p hp']
    go_enter Tryz.func205, Tryz.ntmps205
    go_wp2_with fail
    refine (element_any _ _).mono ?_
    rw [hp']
    rintro e' w' ⟨rfl, rfl⟩
    go_wp2_with fail
    go_ret
    exact ⟨rfl, e0⟩
set_option maxHeartbeats 1000000 in
theorem refverify_any {a : Value} {l : List UInt8} (p e s : Int) (w : World) (ha : Rd w a (bvs l)) (hl : l.length ≤ 140737488352000) (E : KTab w 0) :
    Calls Tryz.prog 161 #[.int .i64 p, a, .agg #[.int .i64 e, .int .i64 s]] w (RetQ w (.bool (verB p l e s))) := by
  have e0 : Ext w (w.alloc (.cells #[.int .i64 e, .int .i64 s] 33)) := (Below.refl _ _).alloc (Nat.le_refl _) _
  by_cases hp : isElem p = true
  · by_cases he : inB 0 1073741789 e = true
    · by_cases hs : inB 0 1073741789 s = true
      · rw [verB_eq hp he hs]
        obtain ⟨p0, p1⟩ := isElem_in hp
        obtain ⟨g0, g1⟩ := inB_true he
        obtain ⟨s0, s1⟩ := inB_true hs
        have HL := Lib.hid he
        clear he
        have ha0 := ha
        obtain ⟨A, n1, c, rfl, hn1, hnc, hcm, hA⟩ := ha.bytes
        subst hn1
        clear hA ha
        go_enter Tryz.func161, Tryz.ntmps161
        go_wp2_with fail
        refine (refelement_any _ _).mono ?_
        rw [hp]
        rintro e' w' ⟨rfl, rfl⟩
        go_wp2_with fail
        refine (small_any _ _).mono ?_
        rw [HL.out]
        rintro e' w' ⟨rfl, rfl⟩
        go_wp2_with fail
        refine (small_any _ _).mono ?_
        rw [hs]
        rintro e' w' ⟨rfl, rfl⟩
        have q0 := pw_lo 4 s
        have q1 := pw_hi 4 s
        have q2 := pw_lo p (1073741789 - e)
        have q3 := pw_hi p (1073741789 - e)
        obtain ⟨m0, m1⟩ := mul_sq q0 q1 q2 q3
        have cs : ∀ W : World, Ext (w.alloc (.cells #[.int .i64 e, .int .i64 s] 33)) W → W.cell? ⟨w.heap.size, 0, none⟩ = some (.int .i64 e) := fun W h => (h.cell (p := ⟨w.heap.size, 0, none⟩) (by simp)).trans (by go_simp)
        have cs1 : ∀ W : World, Ext (w.alloc (.cells #[.int .i64 e, .int .i64 s] 33)) W → W.cell? ⟨w.heap.size, 1, none⟩ = some (.int .i64 s) := fun W h => (h.cell (p := ⟨w.heap.size, 1, none⟩) (by simp)).trans (by go_simp)
        have CS := Lib.hid cs
        have CS1 := Lib.hid cs1
        clear cs cs1
        go_wp2_with fail
        have wi1 : IntKind.i64.wrap (1073741789 - e) = 1073741789 - e := IntWalk.i64_in _ (by omega)
        have tm : (pw 4 s * pw p (1073741789 - e)).tmod 2147483579 = pw 4 s * pw p (1073741789 - e) % 2147483579 := Int.tmod_eq_emod_of_nonneg m0
        have wi2 : IntKind.i64.wrap (pw 4 s * pw p (1073741789 - e)) = pw 4 s * pw p (1073741789 - e) := IntWalk.i64_in _ (by omega)
        refine wp_region_X 10 (by kernel_rfl) (by kernel_rfl) ?_
        simp only [List.take_succ_cons, List.take_zero, List.drop_succ_cons, List.drop_zero]
        intro w1 hw1
        have L : ∀ m : Lt w1, Ext (w.alloc (.cells #[.int .i64 e, .int .i64 s] 33)) m.1 := fun m => hw1.tr m.2
        have cs : ∀ m : Lt w1, m.1.cell? ⟨w.heap.size, 0, none⟩ = some (.int .i64 e) := fun m => CS.out _ (L m)
        have cs1 : ∀ m : Lt w1, m.1.cell? ⟨w.heap.size, 1, none⟩ = some (.int .i64 s) := fun m => CS1.out _ (L m)
        repeat (refine wpX_pure rfl rfl rfl rfl rfl (fun K hK => ?_); go_big_quiet_op; refine hK _ ?_; clear hK K)
        refine wpX_callFn (.int .i64 (pw 4 s)) rfl rfl rfl rfl (by kernel_rfl) rfl rfl (fun m => (refpow_any _ _ _ (by omega) (by omega) (by omega) (by omega)).mono fun _ _ ⟨h1, h2⟩ => ⟨h1, h2 ▸ Below.refl _ _⟩) ?_
        simp only [Act.put, List.setIfInBounds_toArray, List.set_cons_zero, List.set_cons_succ]
        repeat (refine wpX_pure rfl rfl rfl rfl rfl (fun K hK => ?_); go_big_quiet_op; refine hK _ ?_; clear hK K)
        refine wpX_callFn (.int .i64 (pw p (1073741789 - e))) rfl rfl rfl rfl (by kernel_rfl) rfl rfl (fun m => (refpow_any _ _ _ (by omega) (by omega) (by omega) (by omega)).mono fun _ _ ⟨h1, h2⟩ => ⟨h1, h2 ▸ Below.refl _ _⟩) ?_
        simp only [Act.put, List.setIfInBounds_toArray, List.set_cons_zero, List.set_cons_succ]
        repeat (refine wpX_pure rfl rfl rfl rfl rfl (fun K hK => ?_); go_big_quiet_op; refine hK _ ?_; clear hK K)
        refine wpX_end0 (fun m => ?_)
        have Lm := L m
        obtain ⟨wy, hwy⟩ := m
        clear L cs cs1
        obtain ⟨r0, r1⟩ := mul_bd (a := pw 4 s) (b := pw p (1073741789 - e))
        go_wp2_with fail
        clear wi1 wi2 tm
        refine wp_region_X 5 (by kernel_rfl) (by kernel_rfl) ?_
        simp only [List.take_succ_cons, List.take_zero, List.drop_succ_cons, List.drop_zero]
        intro w1 hw1
        have L : ∀ m : Lt w1, Ext (w.alloc (.cells #[.int .i64 e, .int .i64 s] 33)) m.1 := fun m => (Lm.tr hw1).tr m.2
        have cs : ∀ m : Lt w1, m.1.cell? ⟨w.heap.size, 0, none⟩ = some (.int .i64 e) := fun m => CS.out _ (L m)
        repeat (refine wpX_pure rfl rfl rfl rfl rfl (fun K hK => ?_); go_big_quiet_op; refine hK _ ?_; clear hK K)
        refine wpX_callFn (.int .i64 (hnum (pw 4 s * pw p (1073741789 - e) % 2147483579) l 1073741789)) rfl rfl rfl rfl (by kernel_rfl) rfl rfl (fun m => challenge_any _ _ (ha0.ext (e0.tr (L m))) (by omega) (E.below (e0.tr (L m)))) ?_
        simp only [Act.put, List.setIfInBounds_toArray, List.set_cons_zero, List.set_cons_succ]
        refine wpX_end0 (fun m => ?_)
        have Lm2 := L m
        obtain ⟨wz, hwz⟩ := m
        clear L cs
        go_wp2_with fail
        go_ret
        exact ⟨by rw [Bool.beq_comm]; rfl, e0.tr Lm2⟩
      · have hs' := not_true hs
        rw [verB_s hs']
        go_enter Tryz.func161, Tryz.ntmps161
        go_wp2_with fail
        refine (refelement_any _ _).mono ?_
        rw [hp]
        rintro e' w' ⟨rfl, rfl⟩
        go_wp2_with fail
        refine (small_any _ _).mono ?_
        rw [he]
        rintro e' w' ⟨rfl, rfl⟩
        go_wp2_with fail
        refine (small_any _ _).mono ?_
        rw [hs']
        rintro e' w' ⟨rfl, rfl⟩
        go_wp2_with fail
        go_ret
        exact ⟨rfl, e0⟩
    · have he' := not_true he
      rw [verB_e he']
      go_enter Tryz.func161, Tryz.ntmps161
      go_wp2_with fail
      refine (refelement_any _ _).mono ?_
      rw [hp]
      rintro e' w' ⟨rfl, rfl⟩
      go_wp2_with fail
      refine (small_any _ _).mono ?_
      rw [he']
      rintro e' w' ⟨rfl, rfl⟩
      go_wp2_with fail
      go_ret
      exact ⟨rfl, e0⟩
  · have hp' := not_true hp
    rw [verB_p hp']
    go_enter Tryz.func161, Tryz.ntmps161
    go_wp2_with fail
    refine (refelement_any _ _).mono ?_
    rw [hp']
    rintro e' w' ⟨rfl, rfl⟩
    go_wp2_with fail
    go_ret
    exact ⟨rfl, e0⟩
end Go.Proofs.YtkjplpmogfmhkaaGreatDoor
