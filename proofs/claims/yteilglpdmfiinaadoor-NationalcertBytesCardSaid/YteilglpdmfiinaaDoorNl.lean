/- The walks of the laws 29: NationalcertChecks, NationalcertBytes. -/
import Derived.Test.YteilglpdmfiinaaDoorPkq
import Derived.Deep.CutRange
namespace Go.Proofs.YteilglpdmfiinaaDoor
open Go.RowKit
set_option linter.unusedVariables false
set_option maxRecDepth 100000

theorem run_strN {w : World} {A : Option Addr} {n c : Nat} {l : List UInt8} (h : Rd w (.slice A n c) (bvs l)) : (convert 30 9 (.slice A n c)).run Tryd.prog w = .ok (.string (bstr l)) w := by
  obtain ⟨A', n', c', e, hn, hnc, hcm, hc⟩ := h
  injection e with e1 e2 e3
  subst e1 e2 e3
  rw [bvs_length] at hn
  by_cases h0 : n = 0
  · subst h0
    obtain rfl : l = [] := List.eq_nil_of_length_eq_zero hn.symm
    rw [run_convert_bytes_string w 30 9 5 _ 0 c Tryd.underlying30 Tryd.underlying5 Tryd.underlying9]
    cases A <;> simp [Conv.bytesToString, loadCells]
    all_goals rfl
  · obtain ⟨b, o, rfl, hcell⟩ := hc (by omega)
    subst hn
    refine run_convert_bytes_back w 30 9 5 ⟨b, o, none⟩ c l Tryd.underlying30 Tryd.underlying5 Tryd.underlying9 fun j hj => ?_
    rw [Addr.add_lit]
    exact hcell j _ (by simp [bvs, hj, bv])
set_option maxHeartbeats 4000000 in
theorem nchecks_any (c : NC) (day : Int) (w : World) (E : KTab w 1) :
    Calls Tryd.prog 6 #[ncV c, .int .i64 day] w (RetQ w (.bool true)) := by
  have hz1 : (bstr c.st).size = c.st.length := by show c.st.toArray.size = _; simp
  obtain ⟨wz, hwz, xz, TZ⟩ := nc_alloc w c
  by_cases h : c.st.length ≤ 100
  · have k1 : ¬ (100 : Int) < ((bstr c.st).size : Int) := by rw [hz1]; omega
    have hsm : smN c := by unfold smN; omega
    clear hz1 h
    unfold ncV
    go_enter Tryd.func6, Tryd.ntmps6
    go_wp2_with fail
    rw [← hwz]
    clear hwz
    obtain ⟨p0, p1, p2, p3, p4, p5, p6, p7, p8, p9, p10⟩ := (TZ).cells
    have pf0 := (TZ).frozen 0
    have pf1 := (TZ).frozen 1
    have pf2 := (TZ).frozen 2
    have pf3 := (TZ).frozen 3
    have pf4 := (TZ).frozen 4
    have pf5 := (TZ).frozen 5
    have pf6 := (TZ).frozen 6
    have pf7 := (TZ).frozen 7
    have pf8 := (TZ).frozen 8
    have pf9 := (TZ).frozen 9
    have pf10 := (TZ).frozen 10
    have pl := (TZ).lt
    go_upto_region 3 with fail
    clear p0 pf0 p1 pf1 p2 pf2 p3 pf3 p4 pf4 p5 pf5 p6 pf6 p7 pf7 p8 pf8 p9 pf9 p10 pf10 pl
    refine Gd.wp_region_X 17 (by kernel_rfl) (by kernel_rfl) ?_
    simp only [List.take_succ_cons, List.take_zero, List.drop_succ_cons, List.drop_zero]
    intro wq hw1
    have LL : ∀ m : Lt wq, Ext wz m.1 := fun m => hw1.tr m.2
    have P0 : ∀ m : Lt wq, NcAt m.1 w.heap.size c := fun m => TZ.ext (LL m)
    have p0 := fun m : Lt wq => (P0 m).cells.1
    have p1 := fun m : Lt wq => (P0 m).cells.2.1
    have p2 := fun m : Lt wq => (P0 m).cells.2.2.1
    have p3 := fun m : Lt wq => (P0 m).cells.2.2.2.1
    have p4 := fun m : Lt wq => (P0 m).cells.2.2.2.2.1
    have p5 := fun m : Lt wq => (P0 m).cells.2.2.2.2.2.1
    have p6 := fun m : Lt wq => (P0 m).cells.2.2.2.2.2.2.1
    have p7 := fun m : Lt wq => (P0 m).cells.2.2.2.2.2.2.2.1
    have p8 := fun m : Lt wq => (P0 m).cells.2.2.2.2.2.2.2.2.1
    have p9 := fun m : Lt wq => (P0 m).cells.2.2.2.2.2.2.2.2.2.1
    have p10 := fun m : Lt wq => (P0 m).cells.2.2.2.2.2.2.2.2.2.2
    refine Gd.wpX_callFn (by first | exact trivial | exact ⟨_, rfl, rfl, rfl⟩) (.bool true) (args := []) rfl rfl rfl rfl (by kernel_rfl) rfl rfl (fun m => (awake29_any m.1 (E.below (xz.tr (LL m)))).mono fun _ _ ⟨h1, h2⟩ => ⟨h1, h2⟩) ?_
    simp only [Act.put, List.setIfInBounds_toArray, List.set_cons_zero, List.set_cons_succ]
    repeat (refine Gd.wpX_pure (by first | exact trivial | exact ⟨_, rfl, rfl, rfl⟩) rfl rfl rfl rfl rfl (fun K hK => ?_); go_big_quiet_op; refine hK _ ?_; clear hK K)
    refine Gd.wpX_callFn (by first | exact trivial | exact ⟨_, rfl, rfl, rfl⟩) (.int .i64 (ckN c)) (args := [ncV c]) rfl rfl rfl rfl (by kernel_rfl) rfl rfl (fun m => nationalcert_check c m.1 hsm) ?_
    simp only [Act.put, List.setIfInBounds_toArray, List.set_cons_zero, List.set_cons_succ]
    repeat (refine Gd.wpX_pure (by first | exact trivial | exact ⟨_, rfl, rfl, rfl⟩) rfl rfl rfl rfl rfl (fun K hK => ?_); go_big_quiet_op; refine hK _ ?_; clear hK K)
    refine Gd.wpX_callFn (by first | exact trivial | exact ⟨_, rfl, rfl, rfl⟩) (.int .i64 (ckN c)) (args := [ncV c]) rfl rfl rfl rfl (by kernel_rfl) rfl rfl (fun m => traveldocref29_check c m.1 hsm) ?_
    simp only [Act.put, List.setIfInBounds_toArray, List.set_cons_zero, List.set_cons_succ]
    repeat (refine Gd.wpX_pure (by first | exact trivial | exact ⟨_, rfl, rfl, rfl⟩) rfl rfl rfl rfl rfl (fun K hK => ?_); go_big_quiet_op; refine hK _ ?_; clear hK K)
    refine Gd.wpX_callFn (by first | exact trivial | exact ⟨_, rfl, rfl, rfl⟩) (.int .i64 (onN c day)) (args := [ncV c, .int .i64 day]) rfl rfl rfl rfl (by kernel_rfl) rfl rfl (fun m => nationalcert_on c day m.1 hsm) ?_
    simp only [Act.put, List.setIfInBounds_toArray, List.set_cons_zero, List.set_cons_succ]
    repeat (refine Gd.wpX_pure (by first | exact trivial | exact ⟨_, rfl, rfl, rfl⟩) rfl rfl rfl rfl rfl (fun K hK => ?_); go_big_quiet_op; refine hK _ ?_; clear hK K)
    refine Gd.wpX_callFn (by first | exact trivial | exact ⟨_, rfl, rfl, rfl⟩) (.int .i64 (onN c day)) (args := [ncV c, .int .i64 day]) rfl rfl rfl rfl (by kernel_rfl) rfl rfl (fun m => traveldocref29_on c day m.1 hsm) ?_
    simp only [Act.put, List.setIfInBounds_toArray, List.set_cons_zero, List.set_cons_succ]
    repeat (refine Gd.wpX_pure (by first | exact trivial | exact ⟨_, rfl, rfl, rfl⟩) rfl rfl rfl rfl rfl (fun K hK => ?_); go_big_quiet_op; refine hK _ ?_; clear hK K)
    refine Gd.wpX_end0 (fun m => ?_)
    have Lm := xz.tr (LL m)
    obtain ⟨wm, hwm⟩ := m
    clear LL P0 p0 p1 p2 p3 p4 p5 p6 p7 p8 p9 p10
    show wpList _ _ _ _ _ _
    go_wp2_with fail
    go_ret
    exact ⟨by simp, Lm⟩
  · have k1 : (100 : Int) < ((bstr c.st).size : Int) := by rw [hz1]; omega
    clear hz1 h
    unfold ncV
    go_enter Tryd.func6, Tryd.ntmps6
    go_wp2_with fail
    rw [← hwz]
    clear hwz
    obtain ⟨p0, p1, p2, p3, p4, p5, p6, p7, p8, p9, p10⟩ := (TZ).cells
    have pf0 := (TZ).frozen 0
    have pf1 := (TZ).frozen 1
    have pf2 := (TZ).frozen 2
    have pf3 := (TZ).frozen 3
    have pf4 := (TZ).frozen 4
    have pf5 := (TZ).frozen 5
    have pf6 := (TZ).frozen 6
    have pf7 := (TZ).frozen 7
    have pf8 := (TZ).frozen 8
    have pf9 := (TZ).frozen 9
    have pf10 := (TZ).frozen 10
    have pl := (TZ).lt
    go_wp2_with fail
    refine (awake29_any _ (E.below xz)).mono ?_
    rintro e w1 ⟨rfl, b1⟩
    clear p0 pf0 p1 pf1 p2 pf2 p3 pf3 p4 pf4 p5 pf5 p6 pf6 p7 pf7 p8 pf8 p9 pf9 p10 pf10 pl
    go_wp2_with fail
    go_ret
    exact ⟨rfl, xz.tr b1⟩
set_option maxHeartbeats 4000000 in
theorem nbytes_any (c : NC) (w : World) (E : KTab w 1) :
    Calls Tryd.prog 7 #[ncV c] w (RetQ w (.bool true)) := by
  have hz1 : (bstr c.st).size = c.st.length := by show c.st.toArray.size = _; simp
  obtain ⟨wz, hwz, xz, TZ⟩ := nc_alloc w c
  by_cases h : c.st.length ≤ 100
  · have k1 : ¬ (100 : Int) < ((bstr c.st).size : Int) := by rw [hz1]; omega
    have hsm : smN c := by unfold smN; omega
    clear hz1 h
    unfold ncV
    go_enter Tryd.func7, Tryd.ntmps7
    go_wp2_with fail
    rw [← hwz]
    clear hwz
    have x1 := xz
    have T1 := TZ
    obtain ⟨p0, p1, p2, p3, p4, p5, p6, p7, p8, p9, p10⟩ := (T1).cells
    have pf0 := (T1).frozen 0
    have pf1 := (T1).frozen 1
    have pf2 := (T1).frozen 2
    have pf3 := (T1).frozen 3
    have pf4 := (T1).frozen 4
    have pf5 := (T1).frozen 5
    have pf6 := (T1).frozen 6
    have pf7 := (T1).frozen 7
    have pf8 := (T1).frozen 8
    have pf9 := (T1).frozen 9
    have pf10 := (T1).frozen 10
    have pl := (T1).lt
    clear TZ
    go_wp2_with fail
    refine (nbody_any c _ hsm).mono ?_
    rintro e w2 ⟨A2, n2, c2, rfl, hn2, r2, b2⟩
    have T2 := T1.ext b2
    have x2 := x1.tr b2
    clear p0 pf0 p1 pf1 p2 pf2 p3 pf3 p4 pf4 p5 pf5 p6 pf6 p7 pf7 p8 pf8 p9 pf9 p10 pf10 pl
    clear T1
    obtain ⟨p0, p1, p2, p3, p4, p5, p6, p7, p8, p9, p10⟩ := (T2).cells
    have pf0 := (T2).frozen 0
    have pf1 := (T2).frozen 1
    have pf2 := (T2).frozen 2
    have pf3 := (T2).frozen 3
    have pf4 := (T2).frozen 4
    have pf5 := (T2).frozen 5
    have pf6 := (T2).frozen 6
    have pf7 := (T2).frozen 7
    have pf8 := (T2).frozen 8
    have pf9 := (T2).frozen 9
    have pf10 := (T2).frozen 10
    have pl := (T2).lt
    go_wp2_with fail
    refine (nrefbody_any c _ hsm).mono ?_
    rintro e w3 ⟨A3, n3, c3, rfl, hn3, r3, b3⟩
    have T3 := T2.ext b3
    have x3 := x2.tr b3
    clear p0 pf0 p1 pf1 p2 pf2 p3 pf3 p4 pf4 p5 pf5 p6 pf6 p7 pf7 p8 pf8 p9 pf9 p10 pf10 pl
    clear T2
    obtain ⟨p0, p1, p2, p3, p4, p5, p6, p7, p8, p9, p10⟩ := (T3).cells
    have pf0 := (T3).frozen 0
    have pf1 := (T3).frozen 1
    have pf2 := (T3).frozen 2
    have pf3 := (T3).frozen 3
    have pf4 := (T3).frozen 4
    have pf5 := (T3).frozen 5
    have pf6 := (T3).frozen 6
    have pf7 := (T3).frozen 7
    have pf8 := (T3).frozen 8
    have pf9 := (T3).frozen 9
    have pf10 := (T3).frozen 10
    have pl := (T3).lt
    go_wp2_with fail
    refine (nencode_any c _ hsm).mono ?_
    rintro e w4 ⟨A4, n4, c4, rfl, hn4, r4, b4⟩
    have T4 := T3.ext b4
    have x4 := x3.tr b4
    clear p0 pf0 p1 pf1 p2 pf2 p3 pf3 p4 pf4 p5 pf5 p6 pf6 p7 pf7 p8 pf8 p9 pf9 p10 pf10 pl
    clear T3
    obtain ⟨p0, p1, p2, p3, p4, p5, p6, p7, p8, p9, p10⟩ := (T4).cells
    have pf0 := (T4).frozen 0
    have pf1 := (T4).frozen 1
    have pf2 := (T4).frozen 2
    have pf3 := (T4).frozen 3
    have pf4 := (T4).frozen 4
    have pf5 := (T4).frozen 5
    have pf6 := (T4).frozen 6
    have pf7 := (T4).frozen 7
    have pf8 := (T4).frozen 8
    have pf9 := (T4).frozen 9
    have pf10 := (T4).frozen 10
    have pl := (T4).lt
    go_wp2_with fail
    refine (nrefencode_any c _ hsm).mono ?_
    rintro e w5 ⟨A5, n5, c5, rfl, hn5, r5, b5⟩
    have x5 := x4.tr b5
    clear p0 pf0 p1 pf1 p2 pf2 p3 pf3 p4 pf4 p5 pf5 p6 pf6 p7 pf7 p8 pf8 p9 pf9 p10 pf10 pl
    clear T4
    go_wp2_with fail
    refine (awake29_any _ (E.below x5)).mono ?_
    rintro e w6 ⟨rfl, b6⟩
    have s1 := run_strN (r2.ext (b3.tr (b4.tr (b5.tr b6))))
    have s2 := run_strN (r3.ext (b4.tr (b5.tr b6)))
    have s3 := run_strN (r4.ext (b5.tr b6))
    have s4 := run_strN (r5.ext b6)
    clear hn2 hn3 hn4 hn5 r2 r3 r4 r5
    go_wp2_with fail
    go_ret
    exact ⟨by simp, x5.tr b6⟩
  · have k1 : (100 : Int) < ((bstr c.st).size : Int) := by rw [hz1]; omega
    clear hz1 h
    unfold ncV
    go_enter Tryd.func7, Tryd.ntmps7
    go_wp2_with fail
    rw [← hwz]
    clear hwz
    obtain ⟨p0, p1, p2, p3, p4, p5, p6, p7, p8, p9, p10⟩ := (TZ).cells
    have pf0 := (TZ).frozen 0
    have pf1 := (TZ).frozen 1
    have pf2 := (TZ).frozen 2
    have pf3 := (TZ).frozen 3
    have pf4 := (TZ).frozen 4
    have pf5 := (TZ).frozen 5
    have pf6 := (TZ).frozen 6
    have pf7 := (TZ).frozen 7
    have pf8 := (TZ).frozen 8
    have pf9 := (TZ).frozen 9
    have pf10 := (TZ).frozen 10
    have pl := (TZ).lt
    go_wp2_with fail
    refine (awake29_any _ (E.below xz)).mono ?_
    rintro e w1 ⟨rfl, b1⟩
    clear p0 pf0 p1 pf1 p2 pf2 p3 pf3 p4 pf4 p5 pf5 p6 pf6 p7 pf7 p8 pf8 p9 pf9 p10 pf10 pl
    go_wp2_with fail
    go_ret
    exact ⟨rfl, xz.tr b1⟩
end Go.Proofs.YteilglpdmfiinaaDoor
