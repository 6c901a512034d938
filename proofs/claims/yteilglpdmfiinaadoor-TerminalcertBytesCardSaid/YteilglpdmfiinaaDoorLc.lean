/- The walks of the laws 24: TerminalcertChecks, TerminalcertBytes. -/
import Derived.Test.YteilglpdmfiinaaDoorPkk
import Derived.Deep.CutRange
namespace Go.Proofs.YteilglpdmfiinaaDoor
open Go.RowKit
set_option linter.unusedVariables false
set_option maxRecDepth 100000

theorem run_strT {w : World} {A : Option Addr} {n c : Nat} {l : List UInt8} (h : Rd w (.slice A n c) (bvs l)) : (convert 30 9 (.slice A n c)).run Tryd.prog w = .ok (.string (bstr l)) w := by
  obtain ⟨A', n', c', e, hn, hnc, hcm, hc⟩ := h
  injection e with e1 e2 e3
  subst e1 e2 e3
  rw [bvs_length] at hn
  by_cases h0 : n = 0
  · subst h0
    obtain rfl : l = [] := List.eq_nil_of_length_eq_zero hn.symm
    rw [run_convert_bytes_string w 30 9 5 _ 0 c Tryd.underlying30 Tryd.underlying5 Tryd.underlying9]
    cases A <;> simp [Conv.bytesToString, loadCells]
    all_goals rfl
  · obtain ⟨b, o, rfl, hcell⟩ := hc (by omega)
    subst hn
    refine run_convert_bytes_back w 30 9 5 ⟨b, o, none⟩ c l Tryd.underlying30 Tryd.underlying5 Tryd.underlying9 fun j hj => ?_
    rw [Addr.add_lit]
    exact hcell j _ (by simp [bvs, hj, bv])
set_option maxHeartbeats 4000000 in
theorem tchecks_any (c : TC) (w : World) (E : KTab w 1) :
    Calls Tryd.prog 3 #[tcV c] w (RetQ w (.bool true)) := by
  obtain ⟨wz, hwz, xz, TZ⟩ := tc_alloc w c
  by_cases h : ltT c
  · have hsm : smT c := ⟨by have := h.1; omega, by have := h.2; omega⟩
    have TL : ∀ W : World, Calls Tryd.prog 9 #[tcV c] W (RetQ W (.bool true)) := fun W => by have := tlight_any c W; rwa [decide_eq_true h] at this
    clear h
    unfold tcV
    go_enter Tryd.func3, Tryd.ntmps3
    go_upto_region 1 with fail
    rw [← hwz]
    clear hwz
    refine Gd.wp_region_X 13 (by kernel_rfl) (by kernel_rfl) ?_
    simp only [List.take_succ_cons, List.take_zero, List.drop_succ_cons, List.drop_zero]
    intro wq hw1
    have LL : ∀ m : Lt wq, Ext wz m.1 := fun m => hw1.tr m.2
    have P0 : ∀ m : Lt wq, TcAt m.1 w.heap.size c := fun m => TZ.ext (LL m)
    have p0 := fun m : Lt wq => (P0 m).cells.1
    have p1 := fun m : Lt wq => (P0 m).cells.2.1
    have p2 := fun m : Lt wq => (P0 m).cells.2.2.1
    have p3 := fun m : Lt wq => (P0 m).cells.2.2.2.1
    have p4 := fun m : Lt wq => (P0 m).cells.2.2.2.2.1
    have p5 := fun m : Lt wq => (P0 m).cells.2.2.2.2.2.1
    have p6 := fun m : Lt wq => (P0 m).cells.2.2.2.2.2.2.1
    have p7 := fun m : Lt wq => (P0 m).cells.2.2.2.2.2.2.2.1
    have p8 := fun m : Lt wq => (P0 m).cells.2.2.2.2.2.2.2.2
    refine Gd.wpX_callFn (by first | exact trivial | exact ⟨_, rfl, rfl, rfl⟩) (.bool true) (args := []) rfl rfl rfl rfl (by kernel_rfl) rfl rfl (fun m => (awake24_any m.1 (E.below (xz.tr (LL m)))).mono fun _ _ ⟨h1, h2⟩ => ⟨h1, h2⟩) ?_
    simp only [Act.put, List.setIfInBounds_toArray, List.set_cons_zero, List.set_cons_succ]
    repeat (refine Gd.wpX_pure (by first | exact trivial | exact ⟨_, rfl, rfl, rfl⟩) rfl rfl rfl rfl rfl (fun K hK => ?_); go_big_quiet_op; refine hK _ ?_; clear hK K)
    refine Gd.wpX_callFn (by first | exact trivial | exact ⟨_, rfl, rfl, rfl⟩) (.bool true) (args := [tcV c]) rfl rfl rfl rfl (by kernel_rfl) rfl rfl (fun m => TL m.1) ?_
    simp only [Act.put, List.setIfInBounds_toArray, List.set_cons_zero, List.set_cons_succ]
    repeat (refine Gd.wpX_pure (by first | exact trivial | exact ⟨_, rfl, rfl, rfl⟩) rfl rfl rfl rfl rfl (fun K hK => ?_); go_big_quiet_op; refine hK _ ?_; clear hK K)
    refine Gd.wpX_callFn (by first | exact trivial | exact ⟨_, rfl, rfl, rfl⟩) (.int .i64 (ckT c)) (args := [tcV c]) rfl rfl rfl rfl (by kernel_rfl) rfl rfl (fun m => checkP_any c m.1 hsm) ?_
    simp only [Act.put, List.setIfInBounds_toArray, List.set_cons_zero, List.set_cons_succ]
    repeat (refine Gd.wpX_pure (by first | exact trivial | exact ⟨_, rfl, rfl, rfl⟩) rfl rfl rfl rfl rfl (fun K hK => ?_); go_big_quiet_op; refine hK _ ?_; clear hK K)
    refine Gd.wpX_callFn (by first | exact trivial | exact ⟨_, rfl, rfl, rfl⟩) (.int .i64 (ckT c)) (args := [tcV c]) rfl rfl rfl rfl (by kernel_rfl) rfl rfl (fun m => checkR_any c m.1 hsm) ?_
    simp only [Act.put, List.setIfInBounds_toArray, List.set_cons_zero, List.set_cons_succ]
    repeat (refine Gd.wpX_pure (by first | exact trivial | exact ⟨_, rfl, rfl, rfl⟩) rfl rfl rfl rfl rfl (fun K hK => ?_); go_big_quiet_op; refine hK _ ?_; clear hK K)
    refine Gd.wpX_end0 (fun m => ?_)
    have Lm := xz.tr (LL m)
    obtain ⟨wm, hwm⟩ := m
    clear LL P0 p0 p1 p2 p3 p4 p5 p6 p7 p8
    show wpList _ _ _ _ _ _
    go_wp2_with fail
    go_ret
    exact ⟨by simp, Lm⟩
  · have TL : ∀ W : World, Calls Tryd.prog 9 #[tcV c] W (RetQ W (.bool false)) := fun W => by have := tlight_any c W; rwa [decide_eq_false h] at this
    clear h
    unfold tcV
    go_enter Tryd.func3, Tryd.ntmps3
    go_upto_region 1 with fail
    rw [← hwz]
    clear hwz
    refine Gd.wp_region_X 13 (by kernel_rfl) (by kernel_rfl) ?_
    simp only [List.take_succ_cons, List.take_zero, List.drop_succ_cons, List.drop_zero]
    intro wq hw1
    have LL : ∀ m : Lt wq, Ext wz m.1 := fun m => hw1.tr m.2
    have P0 : ∀ m : Lt wq, TcAt m.1 w.heap.size c := fun m => TZ.ext (LL m)
    have p0 := fun m : Lt wq => (P0 m).cells.1
    have p1 := fun m : Lt wq => (P0 m).cells.2.1
    have p2 := fun m : Lt wq => (P0 m).cells.2.2.1
    have p3 := fun m : Lt wq => (P0 m).cells.2.2.2.1
    have p4 := fun m : Lt wq => (P0 m).cells.2.2.2.2.1
    have p5 := fun m : Lt wq => (P0 m).cells.2.2.2.2.2.1
    have p6 := fun m : Lt wq => (P0 m).cells.2.2.2.2.2.2.1
    have p7 := fun m : Lt wq => (P0 m).cells.2.2.2.2.2.2.2.1
    have p8 := fun m : Lt wq => (P0 m).cells.2.2.2.2.2.2.2.2
    refine Gd.wpX_callFn (by first | exact trivial | exact ⟨_, rfl, rfl, rfl⟩) (.bool true) (args := []) rfl rfl rfl rfl (by kernel_rfl) rfl rfl (fun m => (awake24_any m.1 (E.below (xz.tr (LL m)))).mono fun _ _ ⟨h1, h2⟩ => ⟨h1, h2⟩) ?_
    simp only [Act.put, List.setIfInBounds_toArray, List.set_cons_zero, List.set_cons_succ]
    repeat (refine Gd.wpX_pure (by first | exact trivial | exact ⟨_, rfl, rfl, rfl⟩) rfl rfl rfl rfl rfl (fun K hK => ?_); go_big_quiet_op; refine hK _ ?_; clear hK K)
    refine Gd.wpX_callFn (by first | exact trivial | exact ⟨_, rfl, rfl, rfl⟩) (.bool false) (args := [tcV c]) rfl rfl rfl rfl (by kernel_rfl) rfl rfl (fun m => TL m.1) ?_
    simp only [Act.put, List.setIfInBounds_toArray, List.set_cons_zero, List.set_cons_succ]
    repeat (first | (refine Gd.wpX_skip (by exact ⟨_, rfl, rfl, rfl⟩) rfl rfl ?_; simp only [Act.put, List.setIfInBounds_toArray, List.set_cons_zero, List.set_cons_succ]) | (refine Gd.wpX_pure (by first | exact trivial | exact ⟨_, rfl, rfl, rfl⟩) rfl rfl rfl rfl rfl (fun K hK => ?_); go_big_quiet_op; refine hK _ ?_; clear hK K))
    refine Gd.wpX_end0 (fun m => ?_)
    have Lm := xz.tr (LL m)
    obtain ⟨wm, hwm⟩ := m
    clear LL P0 p0 p1 p2 p3 p4 p5 p6 p7 p8
    show wpList _ _ _ _ _ _
    go_wp2_with fail
    go_ret
    exact ⟨by simp, Lm⟩
set_option maxHeartbeats 4000000 in
theorem tbytes_any (c : TC) (w : World) (E : KTab w 1) :
    Calls Tryd.prog 4 #[tcV c] w (RetQ w (.bool true)) := by
  obtain ⟨wz, hwz, xz, TZ⟩ := tc_alloc w c
  unfold tcV
  go_enter Tryd.func4, Tryd.ntmps4
  go_wp2_with fail
  rw [← hwz]
  clear hwz
  refine (tlight_any c _).mono ?_
  rintro e w1 ⟨rfl, b1⟩
  have x1 := xz.tr b1
  by_cases h : ltT c
  · rw [decide_eq_true h]
    have hsm : smT c := ⟨by have := h.1; omega, by have := h.2; omega⟩
    have T1 := TZ.ext b1
    clear h
    obtain ⟨p0, p1, p2, p3, p4, p5, p6, p7, p8⟩ := (T1).cells
    have pf0 := (T1).frozen 0
    have pf1 := (T1).frozen 1
    have pf2 := (T1).frozen 2
    have pf3 := (T1).frozen 3
    have pf4 := (T1).frozen 4
    have pf5 := (T1).frozen 5
    have pf6 := (T1).frozen 6
    have pf7 := (T1).frozen 7
    have pf8 := (T1).frozen 8
    have pl := (T1).lt
    clear TZ
    go_wp2_with fail
    refine (body_any c _ hsm).mono ?_
    rintro e w2 ⟨A2, n2, c2, rfl, hn2, r2, b2⟩
    have T2 := T1.ext b2
    have x2 := x1.tr b2
    clear p0 pf0 p1 pf1 p2 pf2 p3 pf3 p4 pf4 p5 pf5 p6 pf6 p7 pf7 p8 pf8 pl
    clear T1
    obtain ⟨p0, p1, p2, p3, p4, p5, p6, p7, p8⟩ := (T2).cells
    have pf0 := (T2).frozen 0
    have pf1 := (T2).frozen 1
    have pf2 := (T2).frozen 2
    have pf3 := (T2).frozen 3
    have pf4 := (T2).frozen 4
    have pf5 := (T2).frozen 5
    have pf6 := (T2).frozen 6
    have pf7 := (T2).frozen 7
    have pf8 := (T2).frozen 8
    have pl := (T2).lt
    go_wp2_with fail
    refine (refbody_any c _ hsm).mono ?_
    rintro e w3 ⟨A3, n3, c3, rfl, hn3, r3, b3⟩
    have T3 := T2.ext b3
    have x3 := x2.tr b3
    clear p0 pf0 p1 pf1 p2 pf2 p3 pf3 p4 pf4 p5 pf5 p6 pf6 p7 pf7 p8 pf8 pl
    clear T2
    obtain ⟨p0, p1, p2, p3, p4, p5, p6, p7, p8⟩ := (T3).cells
    have pf0 := (T3).frozen 0
    have pf1 := (T3).frozen 1
    have pf2 := (T3).frozen 2
    have pf3 := (T3).frozen 3
    have pf4 := (T3).frozen 4
    have pf5 := (T3).frozen 5
    have pf6 := (T3).frozen 6
    have pf7 := (T3).frozen 7
    have pf8 := (T3).frozen 8
    have pl := (T3).lt
    go_wp2_with fail
    refine (tencode_any c _ hsm).mono ?_
    rintro e w4 ⟨A4, n4, c4, rfl, hn4, r4, b4⟩
    have T4 := T3.ext b4
    have x4 := x3.tr b4
    clear p0 pf0 p1 pf1 p2 pf2 p3 pf3 p4 pf4 p5 pf5 p6 pf6 p7 pf7 p8 pf8 pl
    clear T3
    obtain ⟨p0, p1, p2, p3, p4, p5, p6, p7, p8⟩ := (T4).cells
    have pf0 := (T4).frozen 0
    have pf1 := (T4).frozen 1
    have pf2 := (T4).frozen 2
    have pf3 := (T4).frozen 3
    have pf4 := (T4).frozen 4
    have pf5 := (T4).frozen 5
    have pf6 := (T4).frozen 6
    have pf7 := (T4).frozen 7
    have pf8 := (T4).frozen 8
    have pl := (T4).lt
    go_wp2_with fail
    refine (reftencode_any c _ hsm).mono ?_
    rintro e w5 ⟨A5, n5, c5, rfl, hn5, r5, b5⟩
    have x5 := x4.tr b5
    clear p0 pf0 p1 pf1 p2 pf2 p3 pf3 p4 pf4 p5 pf5 p6 pf6 p7 pf7 p8 pf8 pl
    clear T4
    go_wp2_with fail
    refine (awake24_any _ (E.below x5)).mono ?_
    rintro e w6 ⟨rfl, b6⟩
    have s1 := run_strT (r2.ext (b3.tr (b4.tr (b5.tr b6))))
    have s2 := run_strT (r3.ext (b4.tr (b5.tr b6)))
    have s3 := run_strT (r4.ext (b5.tr b6))
    have s4 := run_strT (r5.ext b6)
    clear hn2 hn3 hn4 hn5 r2 r3 r4 r5
    go_wp2_with fail
    go_ret
    exact ⟨by simp, x5.tr b6⟩
  · rw [decide_eq_false h]
    go_wp2_with fail
    refine (awake24_any _ (E.below x1)).mono ?_
    rintro e w2 ⟨rfl, b2⟩
    go_wp2_with fail
    go_ret
    exact ⟨rfl, x1.tr b2⟩
end Go.Proofs.YteilglpdmfiinaaDoor
