/- The reference's Compress. -/
import Derived.Test.YtkjplpmogfmhkaaGreatDoorWd3
import Derived.Deep.OwnRows
namespace Go.Proofs.YtkjplpmogfmhkaaGreatDoor
open Go.RowKit
set_option linter.unusedVariables false

set_option maxRecDepth 100000 in
set_option maxHeartbeats 2000000 in
theorem refcomp_any {st blk : Value} {s : List Int} {l : List UInt8} (w : World) (hs : RdI w .u32 st s) (hb : Rd w blk (bvs l)) (h8 : s.length = 8) (h64 : l.length = 64) (hk : KTab w 0) :
    Calls Tryz.prog 269 #[st, blk] w (RetC w (comp s l)) := by
  obtain ⟨A, n, c, rfl, hn, hnc, hcm, hA⟩ := hs.ints
  obtain ⟨A2, n2, c2, rfl, hn2, hnc2, hcm2, hB⟩ := hb.bytes
  rw [h8] at hn
  rw [h64] at hn2
  subst hn hn2
  obtain ⟨b1, o1, rfl, hb1, hA1⟩ := hA (by omega)
  obtain ⟨b2, o2, rfl, hb2, hB1⟩ := hB (by omega)
  have HA := Lib.hid hA1
  have HB := Lib.hid hB1
  have HK := Lib.hid hk
  have hg := hk.lt
  clear hA hB hA1 hB1 hk hs hb h8 h64
  go_enter Tryz.func269, Tryz.ntmps269
  go_wp2
  go_loopw [7] (fun i wr => ∃ t : Nat, t ≤ 16 ∧ i = .int .i64 t ∧ wr.rowIs w.heap.size 276 64 (fun i => .int .u32 (if i < t then schedW l i else 0)) ∧ Below w.heap.size w wr) (fun i _ => 16 - (intOf i).toNat)
  case atStart =>
    refine ⟨0, by omega, rfl, ?_, (Below.refl _ _).alloc (Nat.le_refl _) _⟩
    refine World.rowIs_alloc _ _ _ _ ?_
    intro i hi
    match i, hi with
    | 0, _ => rfl
    | 1, _ => rfl
    | 2, _ => rfl
    | 3, _ => rfl
    | 4, _ => rfl
    | 5, _ => rfl
    | 6, _ => rfl
    | 7, _ => rfl
    | 8, _ => rfl
    | 9, _ => rfl
    | 10, _ => rfl
    | 11, _ => rfl
    | 12, _ => rfl
    | 13, _ => rfl
    | 14, _ => rfl
    | 15, _ => rfl
    | 16, _ => rfl
    | 17, _ => rfl
    | 18, _ => rfl
    | 19, _ => rfl
    | 20, _ => rfl
    | 21, _ => rfl
    | 22, _ => rfl
    | 23, _ => rfl
    | 24, _ => rfl
    | 25, _ => rfl
    | 26, _ => rfl
    | 27, _ => rfl
    | 28, _ => rfl
    | 29, _ => rfl
    | 30, _ => rfl
    | 31, _ => rfl
    | 32, _ => rfl
    | 33, _ => rfl
    | 34, _ => rfl
    | 35, _ => rfl
    | 36, _ => rfl
    | 37, _ => rfl
    | 38, _ => rfl
    | 39, _ => rfl
    | 40, _ => rfl
    | 41, _ => rfl
    | 42, _ => rfl
    | 43, _ => rfl
    | 44, _ => rfl
    | 45, _ => rfl
    | 46, _ => rfl
    | 47, _ => rfl
    | 48, _ => rfl
    | 49, _ => rfl
    | 50, _ => rfl
    | 51, _ => rfl
    | 52, _ => rfl
    | 53, _ => rfl
    | 54, _ => rfl
    | 55, _ => rfl
    | 56, _ => rfl
    | 57, _ => rfl
    | 58, _ => rfl
    | 59, _ => rfl
    | 60, _ => rfl
    | 61, _ => rfl
    | 62, _ => rfl
    | 63, _ => rfl
    | i + 64, h => exact absurd (show i + 64 < 64 from h) (by omega)
  case round =>
    obtain ⟨t, ht, rfl, hrow, hbel⟩ := hrel
    by_cases hlt : t < 16
    · have c0 := (hbel.cell (p := ⟨b2, o2 + 4 * t, none⟩) hb2).trans (HB.out (4 * t) (by omega))
      have c1 := (hbel.cell (p := ⟨b2, o2 + (4 * t + 1), none⟩) hb2).trans (HB.out (4 * t + 1) (by omega))
      have c2 := (hbel.cell (p := ⟨b2, o2 + (4 * t + 2), none⟩) hb2).trans (HB.out (4 * t + 2) (by omega))
      have c3 := (hbel.cell (p := ⟨b2, o2 + (4 * t + 3), none⟩) hb2).trans (HB.out (4 * t + 3) (by omega))
      have cs := hrow.cell (i := t) (by omega)
      have fs := hrow.frozen t
      have lo0 := byteI_lo l (4 * t)
      have hi0 := byteI_hi l (4 * t)
      have lo1 := byteI_lo l (4 * t + 1)
      have hi1 := byteI_hi l (4 * t + 1)
      have lo2 := byteI_lo l (4 * t + 2)
      have hi2 := byteI_hi l (4 * t + 2)
      have lo3 := byteI_lo l (4 * t + 3)
      have hi3 := byteI_hi l (4 * t + 3)
      have wi1 : IntKind.i64.wrap (4 * (t : Int)) = 4 * (t : Int) := IntWalk.i64_in _ (by omega)
      have zi1 : (0 : Int) ≤ 4 * (t : Int) := by omega
      have li1 : 4 * (t : Int) < 64 := by omega
      have ti1 : (4 * (t : Int)).toNat = 4 * t := by omega
      have wi2 : IntKind.i64.wrap (4 * (t : Int) + 1) = 4 * (t : Int) + 1 := IntWalk.i64_in _ (by omega)
      have zi2 : (0 : Int) ≤ 4 * (t : Int) + 1 := by omega
      have li2 : 4 * (t : Int) + 1 < 64 := by omega
      have ti2 : (4 * (t : Int) + 1).toNat = 4 * t + 1 := by omega
      have wi3 : IntKind.i64.wrap (4 * (t : Int) + 2) = 4 * (t : Int) + 2 := IntWalk.i64_in _ (by omega)
      have zi3 : (0 : Int) ≤ 4 * (t : Int) + 2 := by omega
      have li3 : 4 * (t : Int) + 2 < 64 := by omega
      have ti3 : (4 * (t : Int) + 2).toNat = 4 * t + 2 := by omega
      have wi4 : IntKind.i64.wrap (4 * (t : Int) + 3) = 4 * (t : Int) + 3 := IntWalk.i64_in _ (by omega)
      have zi4 : (0 : Int) ≤ 4 * (t : Int) + 3 := by omega
      have li4 : 4 * (t : Int) + 3 < 64 := by omega
      have ti4 : (4 * (t : Int) + 3).toNat = 4 * t + 3 := by omega
      have wi5 : IntKind.i64.wrap ((t : Int)) = (t : Int) := IntWalk.i64_in _ (by omega)
      have zi5 : (0 : Int) ≤ (t : Int) := by omega
      have li5 : (t : Int) < 64 := by omega
      have ti5 : ((t : Int)).toNat = t := by omega
      go_wp2
      refine wp_region_qtail 35 (by kernel_rfl) (by kernel_rfl) ?_
      simp only [List.take_succ_cons, List.take_zero, List.drop_succ_cons, List.drop_zero]
      repeat (first | go_big_quiet_step (fail) | quiet_step (fail))
      refine wpQuiet_nil ?_
      intro _ hw'
      obtain ⟨nq, hw''⟩ := hw'
      subst hw''
      go_wp2
      go_roundw
      case rel =>
        refine ⟨t + 1, by omega, by go_num, (World.rowIs.set (w := wr.drewN nq) hrow t _).congr ?_, (Below.drewN_ hbel nq).setCell (Nat.le_refl _) _⟩
        intro i hi
        by_cases hit : i = t
        · subst hit
          simp only [if_pos, Nat.lt_succ_self, schedW_lo l hlt]
          rfl
        · have : (i < t + 1) = (i < t) := by simp; omega
          simp only [hit, this, if_neg, not_false_eq_true]
      case measure => simp [intOf]; omega
    · obtain rfl : t = 16 := by omega
      simp only [Int.cast_ofNat_Int]
      clear hlt ht
      go_wp2
      go_loopw [8] (fun i wr => ∃ t : Nat, 16 ≤ t ∧ t ≤ 64 ∧ i = .int .i64 t ∧ wr.rowIs w.heap.size 276 64 (fun i => .int .u32 (if i < t then schedW l i else 0)) ∧ Below w.heap.size w wr) (fun i _ => 64 - (intOf i).toNat)
      case atStart => exact ⟨16, by omega, by omega, rfl, hrow, hbel⟩
      case round =>
        obtain ⟨t, h16, ht, rfl, hrow, hbel⟩ := hrel
        by_cases hlt : t < 64
        · have hrow' : ∀ i, i < t → wr.cell? ⟨w.heap.size, i, none⟩ = some (.int .u32 (schedW l i)) := fun i hi => by
            have := hrow.cell (i := i) (by omega)
            simpa [hi] using this
          have c2 := hrow' (t - 2) (by omega)
          have c7 := hrow' (t - 7) (by omega)
          have c15 := hrow' (t - 15) (by omega)
          have c16 := hrow' (t - 16) (by omega)
          have cs := hrow.cell (i := t) (by omega)
          have fs := hrow.frozen t
          have wi6 : IntKind.i64.wrap ((t : Int) - 2) = (t : Int) - 2 := IntWalk.i64_in _ (by omega)
          have zi6 : (0 : Int) ≤ (t : Int) - 2 := by omega
          have li6 : (t : Int) - 2 < 64 := by omega
          have ti6 : ((t : Int) - 2).toNat = t - 2 := by omega
          have wi7 : IntKind.i64.wrap ((t : Int) - 7) = (t : Int) - 7 := IntWalk.i64_in _ (by omega)
          have zi7 : (0 : Int) ≤ (t : Int) - 7 := by omega
          have li7 : (t : Int) - 7 < 64 := by omega
          have ti7 : ((t : Int) - 7).toNat = t - 7 := by omega
          have wi8 : IntKind.i64.wrap ((t : Int) - 15) = (t : Int) - 15 := IntWalk.i64_in _ (by omega)
          have zi8 : (0 : Int) ≤ (t : Int) - 15 := by omega
          have li8 : (t : Int) - 15 < 64 := by omega
          have ti8 : ((t : Int) - 15).toNat = t - 15 := by omega
          have wi9 : IntKind.i64.wrap ((t : Int) - 16) = (t : Int) - 16 := IntWalk.i64_in _ (by omega)
          have zi9 : (0 : Int) ≤ (t : Int) - 16 := by omega
          have li9 : (t : Int) - 16 < 64 := by omega
          have ti9 : ((t : Int) - 16).toNat = t - 16 := by omega
          have wi10 : IntKind.i64.wrap ((t : Int)) = (t : Int) := IntWalk.i64_in _ (by omega)
          have zi10 : (0 : Int) ≤ (t : Int) := by omega
          have li10 : (t : Int) < 64 := by omega
          have ti10 : ((t : Int)).toNat = t := by omega
          clear hrow'
          go_wp2
          go_quiet (fail)
          go_wp2
          refine wp_region_qtail 29 (by kernel_rfl) (by kernel_rfl) ?_
          simp only [List.take_succ_cons, List.take_zero, List.drop_succ_cons, List.drop_zero]
          repeat (first | go_big_quiet_step ((go_at_call 283; first | exact Calls.quiet_of_same (rotr_any _ _ (by omega) (by omega) _) | exact quiet_more (rotr_any _ _ (by omega) (by omega) _))) | quiet_step ((go_at_call 283; first | exact Calls.quiet_of_same (rotr_any _ _ (by omega) (by omega) _) | exact quiet_more (rotr_any _ _ (by omega) (by omega) _))))
          refine wpQuiet_nil ?_
          intro _ hw'
          obtain ⟨nq, hw''⟩ := hw'
          subst hw''
          go_wp2
          go_roundw
          case rel =>
            refine ⟨t + 1, by omega, by omega, by go_num, (World.rowIs.set (w := wr.drewN _) hrow t _).congr ?_, (Below.drewN_ hbel _).setCell (Nat.le_refl _) _⟩
            intro i hi
            by_cases hit : i = t
            · subst hit
              simp only [if_pos, Nat.lt_succ_self, schedW_hi l h16 hlt, nextW, sm1, sm0]
            · have : (i < t + 1) = (i < t) := by simp; omega
              simp only [hit, this, if_neg, not_false_eq_true]
          case measure => simp [intOf]; omega
        · obtain rfl : t = 64 := by omega
          simp only [Int.cast_ofNat_Int]
          clear hlt ht h16
          have hW : Hid (∀ i, i < 64 → wr.cell? ⟨w.heap.size, i, none⟩ = some (.int .u32 (schedW l i))) := fun i hi => by
            have := hrow.cell (i := i) (by omega)
            simpa [hi] using this
          clear hrow
          have p0 := (hbel.cell (p := ⟨b1, o1 + 0, none⟩) hb1).trans (HA.out 0 (by omega))
          obtain ⟨x0, hx0⟩ : ∃ x, x = s.getD 0 0 := ⟨_, rfl⟩
          rw [← hx0] at p0
          have HX0 := Lib.hid hx0
          clear hx0
          have p1 := (hbel.cell (p := ⟨b1, o1 + 1, none⟩) hb1).trans (HA.out 1 (by omega))
          obtain ⟨x1, hx1⟩ : ∃ x, x = s.getD 1 0 := ⟨_, rfl⟩
          rw [← hx1] at p1
          have HX1 := Lib.hid hx1
          clear hx1
          have p2 := (hbel.cell (p := ⟨b1, o1 + 2, none⟩) hb1).trans (HA.out 2 (by omega))
          obtain ⟨x2, hx2⟩ : ∃ x, x = s.getD 2 0 := ⟨_, rfl⟩
          rw [← hx2] at p2
          have HX2 := Lib.hid hx2
          clear hx2
          have p3 := (hbel.cell (p := ⟨b1, o1 + 3, none⟩) hb1).trans (HA.out 3 (by omega))
          obtain ⟨x3, hx3⟩ : ∃ x, x = s.getD 3 0 := ⟨_, rfl⟩
          rw [← hx3] at p3
          have HX3 := Lib.hid hx3
          clear hx3
          have p4 := (hbel.cell (p := ⟨b1, o1 + 4, none⟩) hb1).trans (HA.out 4 (by omega))
          obtain ⟨x4, hx4⟩ : ∃ x, x = s.getD 4 0 := ⟨_, rfl⟩
          rw [← hx4] at p4
          have HX4 := Lib.hid hx4
          clear hx4
          have p5 := (hbel.cell (p := ⟨b1, o1 + 5, none⟩) hb1).trans (HA.out 5 (by omega))
          obtain ⟨x5, hx5⟩ : ∃ x, x = s.getD 5 0 := ⟨_, rfl⟩
          rw [← hx5] at p5
          have HX5 := Lib.hid hx5
          clear hx5
          have p6 := (hbel.cell (p := ⟨b1, o1 + 6, none⟩) hb1).trans (HA.out 6 (by omega))
          obtain ⟨x6, hx6⟩ : ∃ x, x = s.getD 6 0 := ⟨_, rfl⟩
          rw [← hx6] at p6
          have HX6 := Lib.hid hx6
          clear hx6
          have p7 := (hbel.cell (p := ⟨b1, o1 + 7, none⟩) hb1).trans (HA.out 7 (by omega))
          obtain ⟨x7, hx7⟩ : ∃ x, x = s.getD 7 0 := ⟨_, rfl⟩
          rw [← hx7] at p7
          have HX7 := Lib.hid hx7
          clear hx7
          simp only [Nat.add_zero] at p0
          go_wp2
          go_quiet (fail)
          go_wp2
          go_loopw [11, 12, 13, 14, 15, 16, 17, 18, 19] (fun v11 v12 v13 v14 v15 v16 v17 v18 i wx => ∃ (t : Nat) (r : S8), t ≤ 64 ∧ i = .int .i64 t ∧ r = roundsF l (s8of s) t ∧ v11 = .int .u32 r.a ∧ v12 = .int .u32 r.b ∧ v13 = .int .u32 r.c ∧ v14 = .int .u32 r.d ∧ v15 = .int .u32 r.e ∧ v16 = .int .u32 r.f ∧ v17 = .int .u32 r.g ∧ v18 = .int .u32 r.h ∧ ∃ n, wx = wr.drewN n)
            (fun _ _ _ _ _ _ _ _ i _ => 64 - (intOf i).toNat)
          case atStart => exact ⟨0, ⟨x0, x1, x2, x3, x4, x5, x6, x7⟩, by omega, rfl, by rw [HX0.out, HX1.out, HX2.out, HX3.out, HX4.out, HX5.out, HX6.out, HX7.out]; rfl, rfl, rfl, rfl, rfl, rfl, rfl, rfl, rfl, _, rfl⟩
          case round =>
            obtain ⟨t, r, ht, rfl, hr, rfl, rfl, rfl, rfl, rfl, rfl, rfl, rfl, nx, rfl⟩ := hrel
            have HR := Lib.hid hr
            clear hr
            by_cases hlt : t < 64
            · have cw := hW.out t hlt
              have ck := (hbel.cell (p := ⟨0, t, none⟩) hg).trans (HK.out t hlt)
              have wi11 : IntKind.i64.wrap ((t : Int)) = (t : Int) := IntWalk.i64_in _ (by omega)
              have zi11 : (0 : Int) ≤ (t : Int) := by omega
              have li11 : (t : Int) < 64 := by omega
              have ti11 : ((t : Int)).toNat = t := by omega
              go_wp2
              go_quiet ((go_at_call 283; first | exact Calls.quiet_of_same (rotr_any _ _ (by omega) (by omega) _) | exact quiet_more (rotr_any _ _ (by omega) (by omega) _)))
              go_wp2_with (go_at_call 283; refine (rotr_any _ _ (by omega) (by omega) _).mono ?_; rintro e w' ⟨rfl, rfl⟩)
              go_roundw
              case rel =>
                refine ⟨t + 1, roundF r (kAt t) (schedW l t), by omega, by go_num, by rw [roundsF, ← HR.out], ?_, rfl, rfl, rfl, ?_, rfl, rfl, rfl, _, rfl⟩
                · simp only [roundF, t1F, t2F, bg0, bg1, chF, mjF, ifmax]
                  exact congrArg _ (by omega)
                · simp only [roundF, t1F, t2F, bg0, bg1, chF, mjF, ifmax]
                  exact congrArg _ (by omega)
              case measure => simp [intOf]; omega
            · obtain rfl : t = 64 := by omega
              simp only [Int.cast_ofNat_Int]
              clear hlt ht
              go_wp2
              refine wp_region_qtail 40 (by kernel_rfl) (by kernel_rfl) ?_
              simp only [List.take_succ_cons, List.take_zero, List.drop_succ_cons, List.drop_zero]
              repeat (first | go_big_quiet_step (fail) | quiet_step (fail))
              refine wpQuiet_nil ?_
              intro _ hw'
              obtain ⟨nq, hw''⟩ := hw'
              subst hw''
              go_wp2
              go_ret2
              refine ⟨_, _, rfl, ?_, Below.alloc (Below.drewN_ hbel _) hbel.size _⟩
              have e : (comp s l).map (Value.int .u32) = [.int .u32 ((x0 + r.a) % 4294967296), .int .u32 ((x1 + r.b) % 4294967296), .int .u32 ((x2 + r.c) % 4294967296), .int .u32 ((x3 + r.d) % 4294967296), .int .u32 ((x4 + r.e) % 4294967296), .int .u32 ((x5 + r.f) % 4294967296), .int .u32 ((x6 + r.g) % 4294967296), .int .u32 ((x7 + r.h) % 4294967296)] := by
                rw [HR.out, HX0.out, HX1.out, HX2.out, HX3.out, HX4.out, HX5.out, HX6.out, HX7.out]; rfl
              unfold RdI
              rw [e]
              exact Rd.lit _ _ _ 8 rfl (by unfold maxLen; omega)
end Go.Proofs.YtkjplpmogfmhkaaGreatDoor
