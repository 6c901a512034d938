/- The walks of the laws 24: TerminalcertDecodes, TerminalcertIssues. -/
import Derived.Test.YteilglpdmfiinaaGreatDoorPkk
import Derived.Test.YteilglpdmfiinaaGreatDoorEv
namespace Go.Proofs.YteilglpdmfiinaaGreatDoor
open Go.RowKit
set_option linter.unusedVariables false
set_option maxRecDepth 100000

def ltT (c : TC) : Prop := c.au.length ≤ 100 ∧ c.ho.length ≤ 100
instance (c : TC) : Decidable (ltT c) := inferInstanceAs (Decidable (_ ∧ _))
theorem tlight_any (c : TC) (w : World) : Calls Tryz.prog 19 #[tcV c] w (RetQ w (.bool (decide (ltT c)))) := by
  have hz1 : (bstr c.au).size = c.au.length := by show c.au.toArray.size = _; simp
  have hz2 : (bstr c.ho).size = c.ho.length := by show c.ho.toArray.size = _; simp
  have x0 : Ext w (w.alloc (.cells #[.string (bstr c.au), .string (bstr c.ho), .int .i64 c.key, .int .i64 c.role, .int .i64 c.rights, .int .i64 c.fr, .int .i64 c.to, .int .i64 c.e, .int .i64 c.s] 27)) := (Below.refl _ _).alloc (Nat.le_refl _) _
  by_cases h1 : c.au.length ≤ 100
  · by_cases h2 : c.ho.length ≤ 100
    · have HN := Lib.hid (show decide (ltT c) = true from decide_eq_true ⟨h1, h2⟩)
      have k1 : decide (((bstr c.au).size : Int) ≤ 100) = true := by rw [hz1]; exact decide_eq_true (by omega)
      have k2 : decide (((bstr c.ho).size : Int) ≤ 100) = true := by rw [hz2]; exact decide_eq_true (by omega)
      clear hz1 hz2 h1 h2
      unfold tcV
      go_enter Tryz.func19, Tryz.ntmps19
      go_wp2_with fail
      go_ret
      exact ⟨by rw [HN.out]; simp, x0⟩
    · have HN := Lib.hid (show decide (ltT c) = false from decide_eq_false fun q => h2 q.2)
      have k1 : decide (((bstr c.au).size : Int) ≤ 100) = true := by rw [hz1]; exact decide_eq_true (by omega)
      have k2 : decide (((bstr c.ho).size : Int) ≤ 100) = false := by rw [hz2]; exact decide_eq_false (by omega)
      clear hz1 hz2 h1 h2
      unfold tcV
      go_enter Tryz.func19, Tryz.ntmps19
      go_wp2_with fail
      go_ret
      exact ⟨by rw [HN.out]; simp, x0⟩
  · have HN := Lib.hid (show decide (ltT c) = false from decide_eq_false fun q => h1 q.1)
    have k1 : decide (((bstr c.au).size : Int) ≤ 100) = false := by rw [hz1]; exact decide_eq_false (by omega)
    clear hz1 hz2 h1
    unfold tcV
    go_enter Tryz.func19, Tryz.ntmps19
    go_wp2_with fail
    go_ret
    exact ⟨by rw [HN.out]; simp, x0⟩
set_option maxHeartbeats 4000000 in
theorem tdecodes_any {a : Value} {l : List UInt8} (w : World) (ha : Rd w a (bvs l)) (E : KTab w 1) :
    Calls Tryz.prog 3 #[a] w (RetQ w (.bool true)) := by
  obtain ⟨A, n, c, rfl, hn, z1⟩ := ha.bytes
  subst hn
  clear z1
  by_cases h : 1000 < l.length
  · have h' : (1000 : Int) < (l.length : Int) := by omega
    clear h
    go_enter Tryz.func3, Tryz.ntmps3
    go_wp2_with fail
    refine (awake24_any _ E).mono ?_
    rintro e w1 ⟨rfl, b1⟩
    go_wp2_with fail
    go_ret
    exact ⟨rfl, b1⟩
  · have h' : ¬ (1000 : Int) < (l.length : Int) := by omega
    have hl : l.length ≤ 4096 := by omega
    have HL := Lib.hid hl
    have HA := Lib.hid ha
    clear h hl ha
    go_enter Tryz.func3, Tryz.ntmps3
    go_wp2_with fail
    refine (tdecode_any _ HA.out HL.out).mono ?_
    rintro e w1 ⟨rfl, b1⟩
    generalize hc1 : dtC l = c1
    obtain ⟨wa1, hwb1, ea1, TA1⟩ := zero_alloc w1
    have hwa1 := hwb1.symm
    clear hwb1
    obtain ⟨wc1, hwc1, ec1, TC1⟩ : ∃ wc, wc = (((((((((wa1.setCell ⟨w1.heap.size, 0, none⟩ (.string (bstr c1.au))).setCell ⟨w1.heap.size, 1, none⟩ (.string (bstr c1.ho))).setCell ⟨w1.heap.size, 2, none⟩ (.int .i64 c1.key)).setCell ⟨w1.heap.size, 3, none⟩ (.int .i64 c1.role)).setCell ⟨w1.heap.size, 4, none⟩ (.int .i64 c1.rights)).setCell ⟨w1.heap.size, 5, none⟩ (.int .i64 c1.fr)).setCell ⟨w1.heap.size, 6, none⟩ (.int .i64 c1.to)).setCell ⟨w1.heap.size, 7, none⟩ (.int .i64 c1.e)).setCell ⟨w1.heap.size, 8, none⟩ (.int .i64 c1.s)) ∧ Ext w1 wc ∧ TcAt wc w1.heap.size c1 := ⟨_, rfl, ext_setT ea1 (Nat.le_refl _) c1, TA1.setT c1⟩
    have HZ1 := Lib.hid (show wc1.heap.size = wa1.heap.size by rw [hwc1]; simp)
    have hla1 := TA1.lt
    obtain ⟨ra0, ra1, ra2, ra3, ra4, ra5, ra6, ra7, ra8⟩ := TA1.cells
    have ga0 := TA1.frozen 0
    have ga1 := TA1.frozen 1
    have ga2 := TA1.frozen 2
    have ga3 := TA1.frozen 3
    have ga4 := TA1.frozen 4
    have ga5 := TA1.frozen 5
    have ga6 := TA1.frozen 6
    have ga7 := TA1.frozen 7
    have ga8 := TA1.frozen 8
    clear ea1
    unfold tcV
    go_wp2_with fail
    rw [← hwc1]
    clear hwc1 hwa1 hla1 TA1 ra0 ga0 ra1 ga1 ra2 ga2 ra3 ga3 ra4 ga4 ra5 ga5 ra6 ga6 ra7 ga7 ra8 ga8
    have x1 := b1.tr ec1
    refine (reftdecode_any _ (HA.out.ext x1) HL.out).mono ?_
    rintro e w2 ⟨rfl, b2⟩
    rw [hc1]
    have T2 := TC1.ext b2
    have x2 := x1.tr b2
    clear hc1 TC1 ec1 HZ1
    obtain ⟨wa2, hwb2, ea2, TA2⟩ := zero_alloc w2
    have hwa2 := hwb2.symm
    clear hwb2
    obtain ⟨wc2, hwc2, ec2, TC2⟩ : ∃ wc, wc = (((((((((wa2.setCell ⟨w2.heap.size, 0, none⟩ (.string (bstr c1.au))).setCell ⟨w2.heap.size, 1, none⟩ (.string (bstr c1.ho))).setCell ⟨w2.heap.size, 2, none⟩ (.int .i64 c1.key)).setCell ⟨w2.heap.size, 3, none⟩ (.int .i64 c1.role)).setCell ⟨w2.heap.size, 4, none⟩ (.int .i64 c1.rights)).setCell ⟨w2.heap.size, 5, none⟩ (.int .i64 c1.fr)).setCell ⟨w2.heap.size, 6, none⟩ (.int .i64 c1.to)).setCell ⟨w2.heap.size, 7, none⟩ (.int .i64 c1.e)).setCell ⟨w2.heap.size, 8, none⟩ (.int .i64 c1.s)) ∧ Ext w2 wc ∧ TcAt wc w2.heap.size c1 := ⟨_, rfl, ext_setT ea2 (Nat.le_refl _) c1, TA2.setT c1⟩
    have HZ2 := Lib.hid (show wc2.heap.size = wa2.heap.size by rw [hwc2]; simp)
    have hla2 := TA2.lt
    obtain ⟨ra0, ra1, ra2, ra3, ra4, ra5, ra6, ra7, ra8⟩ := TA2.cells
    have ga0 := TA2.frozen 0
    have ga1 := TA2.frozen 1
    have ga2 := TA2.frozen 2
    have ga3 := TA2.frozen 3
    have ga4 := TA2.frozen 4
    have ga5 := TA2.frozen 5
    have ga6 := TA2.frozen 6
    have ga7 := TA2.frozen 7
    have ga8 := TA2.frozen 8
    clear ea2
    unfold tcV
    go_wp2_with fail
    rw [← hwc2]
    clear hwc2 hwa2 hla2 TA2 ra0 ga0 ra1 ga1 ra2 ga2 ra3 ga3 ra4 ga4 ra5 ga5 ra6 ga6 ra7 ga7 ra8 ga8
    have x3 := x2.tr ec2
    refine (awake24_any _ (E.below x3)).mono ?_
    rintro e w3 ⟨rfl, b3⟩
    obtain ⟨i0, i1, i2, i3, i4, i5, i6, i7, i8⟩ := (T2.ext (ec2.tr b3)).cells
    obtain ⟨j0, j1, j2, j3, j4, j5, j6, j7, j8⟩ := (TC2.ext b3).cells
    have hl1 := (T2.ext (ec2.tr b3)).lt
    have hl2 := (TC2.ext b3).lt
    clear HZ2
    go_wp2_with fail
    go_ret
    exact ⟨by simp, x3.tr b3⟩
theorem sm_isC {k : Int} {c : TC} (h : smT c) : smT (isC k c) := by
  unfold isC
  split
  · exact h
  · exact ⟨Nat.zero_le _, Nat.zero_le _⟩
set_option maxHeartbeats 4000000 in
theorem tissues_any (k p : Int) (c : TC) (w : World) (E : Env w) :
    Calls Tryz.prog 4 #[.int .i64 k, .int .i64 p, tcV c] w (RetQ w (.bool true)) := by
  obtain ⟨wz, hwz, xz, TZ⟩ := tc_alloc w c
  unfold tcV
  go_enter Tryz.func4, Tryz.ntmps4
  go_wp2_with fail
  rw [← hwz]
  clear hwz
  refine (tlight_any c _).mono ?_
  rintro e w1 ⟨rfl, b1⟩
  have x1 := xz.tr b1
  by_cases h : ltT c
  · rw [decide_eq_true h]
    have hsm : smT c := ⟨by have := h.1; omega, by have := h.2; omega⟩
    have T1 := TZ.ext b1
    obtain ⟨i0, i1, i2, i3, i4, i5, i6, i7, i8⟩ := T1.cells
    have hl1 := T1.lt
    clear h TZ
    go_wp2_with fail
    refine (issue_any k c _ hsm (E.ext x1).d).mono ?_
    rintro e w2 ⟨rfl, b2⟩
    have hsa := sm_isC (k := k) hsm
    generalize hca : isC k c = ca at *
    generalize hka : isK k c = ka at *
    have T2 := T1.ext b2
    have x2 := x1.tr b2
    clear i0 i1 i2 i3 i4 i5 i6 i7 i8 hl1 T1
    obtain ⟨i0, i1, i2, i3, i4, i5, i6, i7, i8⟩ := T2.cells
    have hl1 := T2.lt
    obtain ⟨wa1, hwb1, ea1, TA1⟩ := zero_alloc w2
    have hwa1 := hwb1.symm
    clear hwb1
    obtain ⟨wc1, hwc1, ec1, TC1⟩ : ∃ wc, wc = (((((((((wa1.setCell ⟨w2.heap.size, 0, none⟩ (.string (bstr ca.au))).setCell ⟨w2.heap.size, 1, none⟩ (.string (bstr ca.ho))).setCell ⟨w2.heap.size, 2, none⟩ (.int .i64 ca.key)).setCell ⟨w2.heap.size, 3, none⟩ (.int .i64 ca.role)).setCell ⟨w2.heap.size, 4, none⟩ (.int .i64 ca.rights)).setCell ⟨w2.heap.size, 5, none⟩ (.int .i64 ca.fr)).setCell ⟨w2.heap.size, 6, none⟩ (.int .i64 ca.to)).setCell ⟨w2.heap.size, 7, none⟩ (.int .i64 ca.e)).setCell ⟨w2.heap.size, 8, none⟩ (.int .i64 ca.s)) ∧ Ext w2 wc ∧ TcAt wc w2.heap.size ca := ⟨_, rfl, ext_setT ea1 (Nat.le_refl _) ca, TA1.setT ca⟩
    have HZ1 := Lib.hid (show wc1.heap.size = wa1.heap.size by rw [hwc1]; simp)
    have hla1 := TA1.lt
    obtain ⟨ra0, ra1, ra2, ra3, ra4, ra5, ra6, ra7, ra8⟩ := TA1.cells
    have ga0 := TA1.frozen 0
    have ga1 := TA1.frozen 1
    have ga2 := TA1.frozen 2
    have ga3 := TA1.frozen 3
    have ga4 := TA1.frozen 4
    have ga5 := TA1.frozen 5
    have ga6 := TA1.frozen 6
    have ga7 := TA1.frozen 7
    have ga8 := TA1.frozen 8
    clear ea1
    have T3 := T2.ext ec1
    clear i0 i1 i2 i3 i4 i5 i6 i7 i8 hl1
    unfold tcV
    obtain ⟨i0, i1, i2, i3, i4, i5, i6, i7, i8⟩ := (T2.ext (show Ext w2 wa1 by rw [← hwa1]; exact (Below.refl _ _).alloc (Nat.le_refl _) _)).cells
    have hl1 := T2.lt
    go_wp2_with fail
    rw [← hwc1]
    clear hwc1 hwa1 hla1 TA1 ra0 ga0 ra1 ga1 ra2 ga2 ra3 ga3 ra4 ga4 ra5 ga5 ra6 ga6 ra7 ga7 ra8 ga8
    clear i0 i1 i2 i3 i4 i5 i6 i7 i8 hl1 HZ1
    have x3 := x2.tr ec1
    refine (refissue_any k c _ hsm (E.ext x3).r).mono ?_
    rintro e w4 ⟨rfl, b4⟩
    rw [hca, hka]
    have x4 := x3.tr b4
    have T4 := T3.ext b4
    have TA4 := TC1.ext b4
    clear hca hka TC1 T3 T2 ec1
    obtain ⟨wa2, hwb2, ea2, TA2⟩ := zero_alloc w4
    have hwa2 := hwb2.symm
    clear hwb2
    obtain ⟨wc2, hwc2, ec2, TC2⟩ : ∃ wc, wc = (((((((((wa2.setCell ⟨w4.heap.size, 0, none⟩ (.string (bstr ca.au))).setCell ⟨w4.heap.size, 1, none⟩ (.string (bstr ca.ho))).setCell ⟨w4.heap.size, 2, none⟩ (.int .i64 ca.key)).setCell ⟨w4.heap.size, 3, none⟩ (.int .i64 ca.role)).setCell ⟨w4.heap.size, 4, none⟩ (.int .i64 ca.rights)).setCell ⟨w4.heap.size, 5, none⟩ (.int .i64 ca.fr)).setCell ⟨w4.heap.size, 6, none⟩ (.int .i64 ca.to)).setCell ⟨w4.heap.size, 7, none⟩ (.int .i64 ca.e)).setCell ⟨w4.heap.size, 8, none⟩ (.int .i64 ca.s)) ∧ Ext w4 wc ∧ TcAt wc w4.heap.size ca := ⟨_, rfl, ext_setT ea2 (Nat.le_refl _) ca, TA2.setT ca⟩
    have HZ2 := Lib.hid (show wc2.heap.size = wa2.heap.size by rw [hwc2]; simp)
    have hla2 := TA2.lt
    obtain ⟨ra0, ra1, ra2, ra3, ra4, ra5, ra6, ra7, ra8⟩ := TA2.cells
    have ga0 := TA2.frozen 0
    have ga1 := TA2.frozen 1
    have ga2 := TA2.frozen 2
    have ga3 := TA2.frozen 3
    have ga4 := TA2.frozen 4
    have ga5 := TA2.frozen 5
    have ga6 := TA2.frozen 6
    have ga7 := TA2.frozen 7
    have ga8 := TA2.frozen 8
    clear ea2
    unfold tcV
    go_wp2_with fail
    rw [← hwc2]
    clear hwc2 hwa2 hla2 TA2 ra0 ga0 ra1 ga1 ra2 ga2 ra3 ga3 ra4 ga4 ra5 ga5 ra6 ga6 ra7 ga7 ra8 ga8
    have T5 := T4.ext ec2
    have TA5 := TA4.ext ec2
    have x5 := x4.tr ec2
    clear T4 TA4 HZ2 x4 ec2
    refine Gd.wp_region_X 29 (by kernel_rfl) (by kernel_rfl) ?_
    simp only [List.take_succ_cons, List.take_zero, List.drop_succ_cons, List.drop_zero]
    intro wq hw1
    have LL : ∀ m : Lt wq, Ext wc2 m.1 := fun m => hw1.tr m.2
    have P0 : ∀ m : Lt wq, TcAt m.1 w.heap.size c := fun m => T5.ext (LL m)
    have Q0 : ∀ m : Lt wq, TcAt m.1 w2.heap.size ca := fun m => TA5.ext (LL m)
    have R0 : ∀ m : Lt wq, TcAt m.1 w4.heap.size ca := fun m => TC2.ext (LL m)
    have p0 := fun m : Lt wq => (P0 m).cells.1
    have q0 := fun m : Lt wq => (Q0 m).cells.1
    have r0 := fun m : Lt wq => (R0 m).cells.1
    have p1 := fun m : Lt wq => (P0 m).cells.2.1
    have q1 := fun m : Lt wq => (Q0 m).cells.2.1
    have r1 := fun m : Lt wq => (R0 m).cells.2.1
    have p2 := fun m : Lt wq => (P0 m).cells.2.2.1
    have q2 := fun m : Lt wq => (Q0 m).cells.2.2.1
    have r2 := fun m : Lt wq => (R0 m).cells.2.2.1
    have p3 := fun m : Lt wq => (P0 m).cells.2.2.2.1
    have q3 := fun m : Lt wq => (Q0 m).cells.2.2.2.1
    have r3 := fun m : Lt wq => (R0 m).cells.2.2.2.1
    have p4 := fun m : Lt wq => (P0 m).cells.2.2.2.2.1
    have q4 := fun m : Lt wq => (Q0 m).cells.2.2.2.2.1
    have r4 := fun m : Lt wq => (R0 m).cells.2.2.2.2.1
    have p5 := fun m : Lt wq => (P0 m).cells.2.2.2.2.2.1
    have q5 := fun m : Lt wq => (Q0 m).cells.2.2.2.2.2.1
    have r5 := fun m : Lt wq => (R0 m).cells.2.2.2.2.2.1
    have p6 := fun m : Lt wq => (P0 m).cells.2.2.2.2.2.2.1
    have q6 := fun m : Lt wq => (Q0 m).cells.2.2.2.2.2.2.1
    have r6 := fun m : Lt wq => (R0 m).cells.2.2.2.2.2.2.1
    have p7 := fun m : Lt wq => (P0 m).cells.2.2.2.2.2.2.2.1
    have q7 := fun m : Lt wq => (Q0 m).cells.2.2.2.2.2.2.2.1
    have r7 := fun m : Lt wq => (R0 m).cells.2.2.2.2.2.2.2.1
    have p8 := fun m : Lt wq => (P0 m).cells.2.2.2.2.2.2.2.2
    have q8 := fun m : Lt wq => (Q0 m).cells.2.2.2.2.2.2.2.2
    have r8 := fun m : Lt wq => (R0 m).cells.2.2.2.2.2.2.2.2
    refine Gd.wpX_callFn (by first | exact trivial | exact ⟨_, rfl, rfl, rfl⟩) (.bool true) (args := []) rfl rfl rfl rfl (by kernel_rfl) rfl rfl (fun m => (awake24_any m.1 (E.ext (x5.tr (LL m))).d).mono fun _ _ ⟨h1, h2⟩ => ⟨h1, h2⟩) ?_
    simp only [Act.put, List.setIfInBounds_toArray, List.set_cons_zero, List.set_cons_succ]
    repeat (refine Gd.wpX_pure (by first | exact trivial | exact ⟨_, rfl, rfl, rfl⟩) rfl rfl rfl rfl rfl (fun K hK => ?_); go_big_quiet_op; refine hK _ ?_; clear hK K)
    have V1 := fun (m : Lt wq) => tverify_any p c m.1 hsm (E.ext (x5.tr (LL m))).d
    have V2 := fun (m : Lt wq) => reftverify_any p c m.1 hsm (E.ext (x5.tr (LL m))).r
    have V3 := fun (m : Lt wq) => tverify_any p ca m.1 hsa (E.ext (x5.tr (LL m))).d
    have V4 := fun (m : Lt wq) => reftverify_any p ca m.1 hsa (E.ext (x5.tr (LL m))).r
    generalize vfB p c = u1 at *
    generalize vfB p ca = u2 at *
    refine Gd.wpX_callFn (by first | exact trivial | exact ⟨_, rfl, rfl, rfl⟩) (.bool u1) (args := [.int .i64 p, tcV c]) rfl rfl rfl rfl (by kernel_rfl) rfl rfl V1 ?_
    simp only [Act.put, List.setIfInBounds_toArray, List.set_cons_zero, List.set_cons_succ]
    repeat (refine Gd.wpX_pure (by first | exact trivial | exact ⟨_, rfl, rfl, rfl⟩) rfl rfl rfl rfl rfl (fun K hK => ?_); go_big_quiet_op; refine hK _ ?_; clear hK K)
    refine Gd.wpX_callFn (by first | exact trivial | exact ⟨_, rfl, rfl, rfl⟩) (.bool u1) (args := [.int .i64 p, tcV c]) rfl rfl rfl rfl (by kernel_rfl) rfl rfl V2 ?_
    simp only [Act.put, List.setIfInBounds_toArray, List.set_cons_zero, List.set_cons_succ]
    repeat (refine Gd.wpX_pure (by first | exact trivial | exact ⟨_, rfl, rfl, rfl⟩) rfl rfl rfl rfl rfl (fun K hK => ?_); go_big_quiet_op; refine hK _ ?_; clear hK K)
    refine Gd.wpX_callFn (by first | exact trivial | exact ⟨_, rfl, rfl, rfl⟩) (.bool u2) (args := [.int .i64 p, tcV ca]) rfl rfl rfl rfl (by kernel_rfl) rfl rfl V3 ?_
    simp only [Act.put, List.setIfInBounds_toArray, List.set_cons_zero, List.set_cons_succ]
    repeat (refine Gd.wpX_pure (by first | exact trivial | exact ⟨_, rfl, rfl, rfl⟩) rfl rfl rfl rfl rfl (fun K hK => ?_); go_big_quiet_op; refine hK _ ?_; clear hK K)
    refine Gd.wpX_callFn (by first | exact trivial | exact ⟨_, rfl, rfl, rfl⟩) (.bool u2) (args := [.int .i64 p, tcV ca]) rfl rfl rfl rfl (by kernel_rfl) rfl rfl V4 ?_
    simp only [Act.put, List.setIfInBounds_toArray, List.set_cons_zero, List.set_cons_succ]
    repeat (refine Gd.wpX_pure (by first | exact trivial | exact ⟨_, rfl, rfl, rfl⟩) rfl rfl rfl rfl rfl (fun K hK => ?_); go_big_quiet_op; refine hK _ ?_; clear hK K)
    refine Gd.wpX_end0 (fun m => ?_)
    have Lm := x5.tr (LL m)
    obtain ⟨wm, hwm⟩ := m
    clear LL P0 Q0 R0 V1 V2 V3 V4 p0 p1 p2 p3 p4 p5 p6 p7 p8 q0 q1 q2 q3 q4 q5 q6 q7 q8 r0 r1 r2 r3 r4 r5 r6 r7 r8
    show wpList _ _ _ _ _ _
    go_wp2_with fail
    go_ret
    exact ⟨by simp, Lm⟩
  · rw [decide_eq_false h]
    clear h
    go_wp2_with fail
    refine (awake24_any _ (E.ext x1).d).mono ?_
    rintro e w2 ⟨rfl, b2⟩
    go_wp2_with fail
    go_ret
    exact ⟨rfl, x1.tr b2⟩
end Go.Proofs.YteilglpdmfiinaaGreatDoor
