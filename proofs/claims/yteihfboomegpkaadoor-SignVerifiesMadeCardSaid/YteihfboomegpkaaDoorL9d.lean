/- The walks of the laws 09: SignVerifiesMade. -/
import Derived.Test.YteihfboomegpkaaDoorL9c
namespace Go.Proofs.YteihfboomegpkaaDoor
open Go.RowKit
set_option linter.unusedVariables false
set_option maxRecDepth 100000

theorem sg_alloc2 (w : World) (e0 s0 e1 s1 : Int) : ∃ wz, wz = ((w.alloc (.cells #[.int .i64 e0, .int .i64 s0] 47)).alloc (.cells #[.int .i64 e1, .int .i64 s1] 47)).drew ∧
    SgAt w wz w.heap.size e0 s0 ∧ SgAt w wz (w.heap.size + 1) e1 s1 := by
  have x : Ext w ((w.alloc (.cells #[.int .i64 e0, .int .i64 s0] 47)).alloc (.cells #[.int .i64 e1, .int .i64 s1] 47)).drew :=
    (((Below.refl _ _).alloc (Nat.le_refl _) _).alloc (by simp) _).drew
  exact ⟨_, rfl, ⟨x, by simp <;> omega, by go_simp, by go_simp⟩, ⟨x, by simp, by go_simp, by go_simp⟩⟩
set_option maxHeartbeats 4000000 in
theorem made_any {a b : Value} {l o : List UInt8} (k y : Int) (w : World) (k0 : -9223372036854775808 ≤ k) (k1 : k < 9223372036854775808) (y0 : -9223372036854775808 ≤ y) (y1 : y < 9223372036854775808)
    (ha : Rd w a (bvs l)) (hl : l.length ≤ 140737488351232) (hb : Rd w b (bvs o)) (ho : o.length ≤ 140737488351232) (E : Env w) :
    Calls Tryd.prog 14 #[.agg #[.int .i64 k, .int .i64 y], a, b] w (RetQ w (.bool true)) := by
  obtain ⟨n0, n1⟩ := near_bd k
  have hn := near_in k
  obtain ⟨m0, m1⟩ := near_bd y
  have V := Lib.hid (sig_verifies n0 n1 l)
  have e0 : Ext w (w.alloc (.cells #[.int .i64 k, .int .i64 y] 53)) := (Below.refl _ _).alloc (Nat.le_refl _) _
  have Ec : ∀ W, Ext (w.alloc (.cells #[.int .i64 k, .int .i64 y] 53)) W → W.cell? ⟨w.heap.size, 0, none⟩ = some (.int .i64 k) ∧ W.cell? ⟨w.heap.size, 1, none⟩ = some (.int .i64 y) := fun W h =>
    ⟨(h.cell (p := ⟨w.heap.size, 0, none⟩) (by simp)).trans (by go_simp), (h.cell (p := ⟨w.heap.size, 1, none⟩) (by simp)).trans (by go_simp)⟩
  have EC := Lib.hid Ec
  clear Ec
  have ha0 := ha
  obtain ⟨A, na, ca, rfl, hna, hnac, hcam, hA⟩ := ha.bytes
  subst hna
  have hb0 := hb
  obtain ⟨B, nb, cb, rfl, hnb, hnbc, hcbm, hB⟩ := hb.bytes
  subst hnb
  clear hA ha hB hb
  go_enter Tryd.func14, Tryd.ntmps14
  go_wp2_with fail
  refine wp_region_X 7 (by kernel_rfl) (by kernel_rfl) ?_
  simp only [List.take_succ_cons, List.take_zero, List.drop_succ_cons, List.drop_zero]
  intro w1 hw1
  have L : ∀ m : Lt w1, Ext (w.alloc (.cells #[.int .i64 k, .int .i64 y] 53)) m.1 := fun m => hw1.tr m.2
  have q0 : ∀ m : Lt w1, m.1.cell? ⟨w.heap.size, 0, none⟩ = some (.int .i64 k) := fun m => (EC.out _ (L m)).1
  have q1 : ∀ m : Lt w1, m.1.cell? ⟨w.heap.size, 1, none⟩ = some (.int .i64 y) := fun m => (EC.out _ (L m)).2
  repeat (refine wpX_pure rfl rfl rfl rfl rfl (fun K hK => ?_); go_big_quiet_op; refine hK _ ?_; clear hK K)
  refine wpX_callFn (.int .i64 (nearI k)) rfl rfl rfl rfl (by kernel_rfl) rfl rfl (fun m => (near_any _ _ k0 k1).mono fun _ _ ⟨h1, h2⟩ => ⟨h1, h2 ▸ Below.refl _ _⟩) ?_
  simp only [Act.put, List.setIfInBounds_toArray, List.set_cons_zero, List.set_cons_succ]
  repeat (refine wpX_pure rfl rfl rfl rfl rfl (fun K hK => ?_); go_big_quiet_op; refine hK _ ?_; clear hK K)
  refine wpX_end0 (fun m => ?_)
  have x0 := e0.tr (L m)
  obtain ⟨wm, hwm⟩ := m
  clear L q0 q1
  go_wp2_with fail
  refine (refpublic_yes _ _ hn).mono ?_
  rintro e w' ⟨rfl, rfl⟩
  go_wp2_with fail
  refine (sign_yes _ _ hn (ha0.ext x0) (by omega) (E.ext x0).d).mono ?_
  rintro e w2 ⟨rfl, b2⟩
  unfold sgV
  obtain ⟨wa, hwa, sa⟩ := sg_alloc w2 (sigE (nearI k) l) (sigS (nearI k) l)
  go_wp2_with fail
  rw [← hwa]
  clear hwa
  have x2 := (x0.tr b2).tr sa.ext
  refine (awake9_any _ (E.ext x2).d).mono ?_
  rintro e w3 ⟨rfl, b3⟩
  have x3 := x2.tr b3
  have q0 := (sa.keep b3).c0
  have q1 := (sa.keep b3).c1
  go_wp2_with fail
  refine (verify_any _ _ _ _ (ha0.ext x3) (by omega) (E.ext x3).d).mono ?_
  rw [V.out]
  rintro e w4 ⟨rfl, b4⟩
  have x4 := x3.tr b4
  clear q0 q1
  have s4 := sa.keep (b3.tr b4)
  have q0 := s4.c0
  have q1 := s4.c1
  have hz := s4.lt
  go_wp2_with fail
  go_region
  · go_wp2_with fail
    refine (near_any _ _ y0 y1).mono ?_
    rintro e w' ⟨rfl, rfl⟩
    go_wp2_with fail
    refine (near_any _ _ y0 y1).mono ?_
    rintro e w' ⟨rfl, rfl⟩
    go_wp2_with fail
    obtain ⟨wz, hwz, t1, t2⟩ := sg_alloc2 w4 (nearI y - 1) (sigS (nearI k) l) (sigE (nearI k) l) (nearI y - 1)
    rw [← hwz]
    clear hwz q0 q1
    have x5 := x4.tr t1.ext
    refine (point_any _ _ y0 y1).mono ?_
    rintro e w' ⟨rfl, rfl⟩
    go_wp2_with fail
    have CC : ∀ W, Ext wz W → (W.cell? ⟨w2.heap.size, 0, none⟩ = some (.int .i64 (sigE (nearI k) l)) ∧ W.cell? ⟨w2.heap.size, 1, none⟩ = some (.int .i64 (sigS (nearI k) l))) ∧ (W.cell? ⟨w4.heap.size, 0, none⟩ = some (.int .i64 (nearI y - 1)) ∧ W.cell? ⟨w4.heap.size, 1, none⟩ = some (.int .i64 (sigS (nearI k) l))) ∧ (W.cell? ⟨w4.heap.size + 1, 0, none⟩ = some (.int .i64 (sigE (nearI k) l)) ∧ W.cell? ⟨w4.heap.size + 1, 1, none⟩ = some (.int .i64 (nearI y - 1))) := fun W h =>
      ⟨⟨(s4.keep (t1.ext.tr h)).c0, (s4.keep (t1.ext.tr h)).c1⟩, ⟨(t1.keep h).c0, (t1.keep h).c1⟩, ⟨(t2.keep h).c0, (t2.keep h).c1⟩⟩
    have HC := Lib.hid CC
    clear CC
    refine Gd.wp_region_X 42 (by kernel_rfl) (by kernel_rfl) ?_
    simp only [List.take_succ_cons, List.take_zero, List.drop_succ_cons, List.drop_zero]
    intro w1 hw1
    have L : ∀ m : Lt w1, Ext wz m.1 := fun m => hw1.tr m.2
    have X : ∀ m : Lt w1, Ext w m.1 := fun m => x5.tr (L m)
    have q0 : ∀ m : Lt w1, m.1.cell? ⟨w2.heap.size, 0, none⟩ = some (.int .i64 (sigE (nearI k) l)) := fun m => (HC.out _ (L m)).1.1
    have q1 : ∀ m : Lt w1, m.1.cell? ⟨w2.heap.size, 1, none⟩ = some (.int .i64 (sigS (nearI k) l)) := fun m => (HC.out _ (L m)).1.2
    have q2 : ∀ m : Lt w1, m.1.cell? ⟨w4.heap.size, 0, none⟩ = some (.int .i64 (nearI y - 1)) := fun m => (HC.out _ (L m)).2.1.1
    have q3 : ∀ m : Lt w1, m.1.cell? ⟨w4.heap.size, 1, none⟩ = some (.int .i64 (sigS (nearI k) l)) := fun m => (HC.out _ (L m)).2.1.2
    have q4 : ∀ m : Lt w1, m.1.cell? ⟨w4.heap.size + 1, 0, none⟩ = some (.int .i64 (sigE (nearI k) l)) := fun m => (HC.out _ (L m)).2.2.1
    have q5 : ∀ m : Lt w1, m.1.cell? ⟨w4.heap.size + 1, 1, none⟩ = some (.int .i64 (nearI y - 1)) := fun m => (HC.out _ (L m)).2.2.2
    repeat (refine Gd.wpX_pure (by first | exact trivial | exact ⟨_, rfl, rfl, rfl⟩) rfl rfl rfl rfl rfl (fun K hK => ?_); go_big_quiet_op; refine hK _ ?_; clear hK K)
    refine Gd.wpX_callFn (by first | exact trivial | exact ⟨_, rfl, rfl, rfl⟩) (.bool (verB (pw 4 (nearI k)) o (sigE (nearI k) l) (sigS (nearI k) l))) rfl rfl rfl rfl (by kernel_rfl) rfl rfl (fun m => verify_any _ _ _ _ (hb0.ext (X m)) (by omega) (E.ext (X m)).d) ?_
    simp only [Act.put, List.setIfInBounds_toArray, List.set_cons_zero, List.set_cons_succ]
    repeat (refine Gd.wpX_pure (by first | exact trivial | exact ⟨_, rfl, rfl, rfl⟩) rfl rfl rfl rfl rfl (fun K hK => ?_); go_big_quiet_op; refine hK _ ?_; clear hK K)
    refine Gd.wpX_callFn (by first | exact trivial | exact ⟨_, rfl, rfl, rfl⟩) (.bool (verB (pw 4 (nearI k)) o (sigE (nearI k) l) (sigS (nearI k) l))) rfl rfl rfl rfl (by kernel_rfl) rfl rfl (fun m => refverify_any _ _ _ _ (hb0.ext (X m)) (by omega) (E.ext (X m)).r) ?_
    simp only [Act.put, List.setIfInBounds_toArray, List.set_cons_zero, List.set_cons_succ]
    repeat (refine Gd.wpX_pure (by first | exact trivial | exact ⟨_, rfl, rfl, rfl⟩) rfl rfl rfl rfl rfl (fun K hK => ?_); go_big_quiet_op; refine hK _ ?_; clear hK K)
    refine Gd.wpX_callFn (by first | exact trivial | exact ⟨_, rfl, rfl, rfl⟩) (.bool (verB (pw 4 (nearI k)) l (nearI y - 1) (sigS (nearI k) l))) rfl rfl rfl rfl (by kernel_rfl) rfl rfl (fun m => verify_any _ _ _ _ (ha0.ext (X m)) (by omega) (E.ext (X m)).d) ?_
    simp only [Act.put, List.setIfInBounds_toArray, List.set_cons_zero, List.set_cons_succ]
    repeat (refine Gd.wpX_pure (by first | exact trivial | exact ⟨_, rfl, rfl, rfl⟩) rfl rfl rfl rfl rfl (fun K hK => ?_); go_big_quiet_op; refine hK _ ?_; clear hK K)
    refine Gd.wpX_callFn (by first | exact trivial | exact ⟨_, rfl, rfl, rfl⟩) (.bool (verB (pw 4 (nearI k)) l (nearI y - 1) (sigS (nearI k) l))) rfl rfl rfl rfl (by kernel_rfl) rfl rfl (fun m => refverify_any _ _ _ _ (ha0.ext (X m)) (by omega) (E.ext (X m)).r) ?_
    simp only [Act.put, List.setIfInBounds_toArray, List.set_cons_zero, List.set_cons_succ]
    repeat (refine Gd.wpX_pure (by first | exact trivial | exact ⟨_, rfl, rfl, rfl⟩) rfl rfl rfl rfl rfl (fun K hK => ?_); go_big_quiet_op; refine hK _ ?_; clear hK K)
    refine Gd.wpX_callFn (by first | exact trivial | exact ⟨_, rfl, rfl, rfl⟩) (.bool (verB (pw 4 (nearI k)) l (sigE (nearI k) l) (nearI y - 1))) rfl rfl rfl rfl (by kernel_rfl) rfl rfl (fun m => verify_any _ _ _ _ (ha0.ext (X m)) (by omega) (E.ext (X m)).d) ?_
    simp only [Act.put, List.setIfInBounds_toArray, List.set_cons_zero, List.set_cons_succ]
    repeat (refine Gd.wpX_pure (by first | exact trivial | exact ⟨_, rfl, rfl, rfl⟩) rfl rfl rfl rfl rfl (fun K hK => ?_); go_big_quiet_op; refine hK _ ?_; clear hK K)
    refine Gd.wpX_callFn (by first | exact trivial | exact ⟨_, rfl, rfl, rfl⟩) (.bool (verB (pw 4 (nearI k)) l (sigE (nearI k) l) (nearI y - 1))) rfl rfl rfl rfl (by kernel_rfl) rfl rfl (fun m => refverify_any _ _ _ _ (ha0.ext (X m)) (by omega) (E.ext (X m)).r) ?_
    simp only [Act.put, List.setIfInBounds_toArray, List.set_cons_zero, List.set_cons_succ]
    repeat (refine Gd.wpX_pure (by first | exact trivial | exact ⟨_, rfl, rfl, rfl⟩) rfl rfl rfl rfl rfl (fun K hK => ?_); go_big_quiet_op; refine hK _ ?_; clear hK K)
    refine Gd.wpX_callFn (by first | exact trivial | exact ⟨_, rfl, rfl, rfl⟩) (.bool (verB (pw 4 (nearI y)) l (sigE (nearI k) l) (sigS (nearI k) l))) rfl rfl rfl rfl (by kernel_rfl) rfl rfl (fun m => verify_any _ _ _ _ (ha0.ext (X m)) (by omega) (E.ext (X m)).d) ?_
    simp only [Act.put, List.setIfInBounds_toArray, List.set_cons_zero, List.set_cons_succ]
    repeat (refine Gd.wpX_pure (by first | exact trivial | exact ⟨_, rfl, rfl, rfl⟩) rfl rfl rfl rfl rfl (fun K hK => ?_); go_big_quiet_op; refine hK _ ?_; clear hK K)
    refine Gd.wpX_callFn (by first | exact trivial | exact ⟨_, rfl, rfl, rfl⟩) (.bool (verB (pw 4 (nearI y)) l (sigE (nearI k) l) (sigS (nearI k) l))) rfl rfl rfl rfl (by kernel_rfl) rfl rfl (fun m => refverify_any _ _ _ _ (ha0.ext (X m)) (by omega) (E.ext (X m)).r) ?_
    simp only [Act.put, List.setIfInBounds_toArray, List.set_cons_zero, List.set_cons_succ]
    repeat (refine Gd.wpX_pure (by first | exact trivial | exact ⟨_, rfl, rfl, rfl⟩) rfl rfl rfl rfl rfl (fun K hK => ?_); go_big_quiet_op; refine hK _ ?_; clear hK K)
    refine Gd.wpX_end0 (fun m => ?_)
    have Lm := X m
    obtain ⟨wy, hwy⟩ := m
    clear L X q0 q1 q2 q3 q4 q5
    go_wp2_with fail
    go_ret
    exact ⟨rfl, Lm⟩
  · go_wp2_with fail
    refine (near_any _ _ y0 y1).mono ?_
    rintro e w' ⟨rfl, rfl⟩
    go_wp2_with fail
    refine (near_any _ _ y0 y1).mono ?_
    rintro e w' ⟨rfl, rfl⟩
    go_wp2_with fail
    obtain ⟨wz, hwz, t1, t2⟩ := sg_alloc2 w4 (sigE (nearI k) l) (nearI y - 1) (nearI y - 1) (sigS (nearI k) l)
    rw [← hwz]
    clear hwz q0 q1
    have x5 := x4.tr t1.ext
    refine (point_any _ _ y0 y1).mono ?_
    rintro e w' ⟨rfl, rfl⟩
    go_wp2_with fail
    have CC : ∀ W, Ext wz W → (W.cell? ⟨w2.heap.size, 0, none⟩ = some (.int .i64 (sigE (nearI k) l)) ∧ W.cell? ⟨w2.heap.size, 1, none⟩ = some (.int .i64 (sigS (nearI k) l))) ∧ (W.cell? ⟨w4.heap.size + 1, 0, none⟩ = some (.int .i64 (nearI y - 1)) ∧ W.cell? ⟨w4.heap.size + 1, 1, none⟩ = some (.int .i64 (sigS (nearI k) l))) ∧ (W.cell? ⟨w4.heap.size, 0, none⟩ = some (.int .i64 (sigE (nearI k) l)) ∧ W.cell? ⟨w4.heap.size, 1, none⟩ = some (.int .i64 (nearI y - 1))) := fun W h =>
      ⟨⟨(s4.keep (t1.ext.tr h)).c0, (s4.keep (t1.ext.tr h)).c1⟩, ⟨(t2.keep h).c0, (t2.keep h).c1⟩, ⟨(t1.keep h).c0, (t1.keep h).c1⟩⟩
    have HC := Lib.hid CC
    clear CC
    refine Gd.wp_region_X 42 (by kernel_rfl) (by kernel_rfl) ?_
    simp only [List.take_succ_cons, List.take_zero, List.drop_succ_cons, List.drop_zero]
    intro w1 hw1
    have L : ∀ m : Lt w1, Ext wz m.1 := fun m => hw1.tr m.2
    have X : ∀ m : Lt w1, Ext w m.1 := fun m => x5.tr (L m)
    have q0 : ∀ m : Lt w1, m.1.cell? ⟨w2.heap.size, 0, none⟩ = some (.int .i64 (sigE (nearI k) l)) := fun m => (HC.out _ (L m)).1.1
    have q1 : ∀ m : Lt w1, m.1.cell? ⟨w2.heap.size, 1, none⟩ = some (.int .i64 (sigS (nearI k) l)) := fun m => (HC.out _ (L m)).1.2
    have q2 : ∀ m : Lt w1, m.1.cell? ⟨w4.heap.size + 1, 0, none⟩ = some (.int .i64 (nearI y - 1)) := fun m => (HC.out _ (L m)).2.1.1
    have q3 : ∀ m : Lt w1, m.1.cell? ⟨w4.heap.size + 1, 1, none⟩ = some (.int .i64 (sigS (nearI k) l)) := fun m => (HC.out _ (L m)).2.1.2
    have q4 : ∀ m : Lt w1, m.1.cell? ⟨w4.heap.size, 0, none⟩ = some (.int .i64 (sigE (nearI k) l)) := fun m => (HC.out _ (L m)).2.2.1
    have q5 : ∀ m : Lt w1, m.1.cell? ⟨w4.heap.size, 1, none⟩ = some (.int .i64 (nearI y - 1)) := fun m => (HC.out _ (L m)).2.2.2
    repeat (refine Gd.wpX_pure (by first | exact trivial | exact ⟨_, rfl, rfl, rfl⟩) rfl rfl rfl rfl rfl (fun K hK => ?_); go_big_quiet_op; refine hK _ ?_; clear hK K)
    refine Gd.wpX_callFn (by first | exact trivial | exact ⟨_, rfl, rfl, rfl⟩) (.bool (verB (pw 4 (nearI k)) o (sigE (nearI k) l) (sigS (nearI k) l))) rfl rfl rfl rfl (by kernel_rfl) rfl rfl (fun m => verify_any _ _ _ _ (hb0.ext (X m)) (by omega) (E.ext (X m)).d) ?_
    simp only [Act.put, List.setIfInBounds_toArray, List.set_cons_zero, List.set_cons_succ]
    repeat (refine Gd.wpX_pure (by first | exact trivial | exact ⟨_, rfl, rfl, rfl⟩) rfl rfl rfl rfl rfl (fun K hK => ?_); go_big_quiet_op; refine hK _ ?_; clear hK K)
    refine Gd.wpX_callFn (by first | exact trivial | exact ⟨_, rfl, rfl, rfl⟩) (.bool (verB (pw 4 (nearI k)) o (sigE (nearI k) l) (sigS (nearI k) l))) rfl rfl rfl rfl (by kernel_rfl) rfl rfl (fun m => refverify_any _ _ _ _ (hb0.ext (X m)) (by omega) (E.ext (X m)).r) ?_
    simp only [Act.put, List.setIfInBounds_toArray, List.set_cons_zero, List.set_cons_succ]
    repeat (refine Gd.wpX_pure (by first | exact trivial | exact ⟨_, rfl, rfl, rfl⟩) rfl rfl rfl rfl rfl (fun K hK => ?_); go_big_quiet_op; refine hK _ ?_; clear hK K)
    refine Gd.wpX_callFn (by first | exact trivial | exact ⟨_, rfl, rfl, rfl⟩) (.bool (verB (pw 4 (nearI k)) l (nearI y - 1) (sigS (nearI k) l))) rfl rfl rfl rfl (by kernel_rfl) rfl rfl (fun m => verify_any _ _ _ _ (ha0.ext (X m)) (by omega) (E.ext (X m)).d) ?_
    simp only [Act.put, List.setIfInBounds_toArray, List.set_cons_zero, List.set_cons_succ]
    repeat (refine Gd.wpX_pure (by first | exact trivial | exact ⟨_, rfl, rfl, rfl⟩) rfl rfl rfl rfl rfl (fun K hK => ?_); go_big_quiet_op; refine hK _ ?_; clear hK K)
    refine Gd.wpX_callFn (by first | exact trivial | exact ⟨_, rfl, rfl, rfl⟩) (.bool (verB (pw 4 (nearI k)) l (nearI y - 1) (sigS (nearI k) l))) rfl rfl rfl rfl (by kernel_rfl) rfl rfl (fun m => refverify_any _ _ _ _ (ha0.ext (X m)) (by omega) (E.ext (X m)).r) ?_
    simp only [Act.put, List.setIfInBounds_toArray, List.set_cons_zero, List.set_cons_succ]
    repeat (refine Gd.wpX_pure (by first | exact trivial | exact ⟨_, rfl, rfl, rfl⟩) rfl rfl rfl rfl rfl (fun K hK => ?_); go_big_quiet_op; refine hK _ ?_; clear hK K)
    refine Gd.wpX_callFn (by first | exact trivial | exact ⟨_, rfl, rfl, rfl⟩) (.bool (verB (pw 4 (nearI k)) l (sigE (nearI k) l) (nearI y - 1))) rfl rfl rfl rfl (by kernel_rfl) rfl rfl (fun m => verify_any _ _ _ _ (ha0.ext (X m)) (by omega) (E.ext (X m)).d) ?_
    simp only [Act.put, List.setIfInBounds_toArray, List.set_cons_zero, List.set_cons_succ]
    repeat (refine Gd.wpX_pure (by first | exact trivial | exact ⟨_, rfl, rfl, rfl⟩) rfl rfl rfl rfl rfl (fun K hK => ?_); go_big_quiet_op; refine hK _ ?_; clear hK K)
    refine Gd.wpX_callFn (by first | exact trivial | exact ⟨_, rfl, rfl, rfl⟩) (.bool (verB (pw 4 (nearI k)) l (sigE (nearI k) l) (nearI y - 1))) rfl rfl rfl rfl (by kernel_rfl) rfl rfl (fun m => refverify_any _ _ _ _ (ha0.ext (X m)) (by omega) (E.ext (X m)).r) ?_
    simp only [Act.put, List.setIfInBounds_toArray, List.set_cons_zero, List.set_cons_succ]
    repeat (refine Gd.wpX_pure (by first | exact trivial | exact ⟨_, rfl, rfl, rfl⟩) rfl rfl rfl rfl rfl (fun K hK => ?_); go_big_quiet_op; refine hK _ ?_; clear hK K)
    refine Gd.wpX_callFn (by first | exact trivial | exact ⟨_, rfl, rfl, rfl⟩) (.bool (verB (pw 4 (nearI y)) l (sigE (nearI k) l) (sigS (nearI k) l))) rfl rfl rfl rfl (by kernel_rfl) rfl rfl (fun m => verify_any _ _ _ _ (ha0.ext (X m)) (by omega) (E.ext (X m)).d) ?_
    simp only [Act.put, List.setIfInBounds_toArray, List.set_cons_zero, List.set_cons_succ]
    repeat (refine Gd.wpX_pure (by first | exact trivial | exact ⟨_, rfl, rfl, rfl⟩) rfl rfl rfl rfl rfl (fun K hK => ?_); go_big_quiet_op; refine hK _ ?_; clear hK K)
    refine Gd.wpX_callFn (by first | exact trivial | exact ⟨_, rfl, rfl, rfl⟩) (.bool (verB (pw 4 (nearI y)) l (sigE (nearI k) l) (sigS (nearI k) l))) rfl rfl rfl rfl (by kernel_rfl) rfl rfl (fun m => refverify_any _ _ _ _ (ha0.ext (X m)) (by omega) (E.ext (X m)).r) ?_
    simp only [Act.put, List.setIfInBounds_toArray, List.set_cons_zero, List.set_cons_succ]
    repeat (refine Gd.wpX_pure (by first | exact trivial | exact ⟨_, rfl, rfl, rfl⟩) rfl rfl rfl rfl rfl (fun K hK => ?_); go_big_quiet_op; refine hK _ ?_; clear hK K)
    refine Gd.wpX_end0 (fun m => ?_)
    have Lm := X m
    obtain ⟨wy, hwy⟩ := m
    clear L X q0 q1 q2 q3 q4 q5
    go_wp2_with fail
    go_ret
    exact ⟨rfl, Lm⟩
end Go.Proofs.YteihfboomegpkaaDoor
