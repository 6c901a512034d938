/- The walks of the laws 09: SignRefuses, SignVerifiesMade. -/
import Derived.Test.YteihfboomegpkaaDoorL9b
import Derived.BigRegion
namespace Go.Proofs.YteihfboomegpkaaDoor
open Go.RowKit
set_option linter.unusedVariables false
set_option maxRecDepth 100000

theorem sg_alloc3 (w : World) (e0 s0 e1 s1 e2 s2 : Int) : ∃ wz, wz = (((w.alloc (.cells #[.int .i64 e0, .int .i64 s0] 47)).alloc (.cells #[.int .i64 e1, .int .i64 s1] 47)).alloc (.cells #[.int .i64 e2, .int .i64 s2] 47)).drew.drew ∧
    SgAt w wz w.heap.size e0 s0 ∧ SgAt w wz (w.heap.size + 1) e1 s1 ∧ SgAt w wz (w.heap.size + 1 + 1) e2 s2 := by
  have x : Ext w (((w.alloc (.cells #[.int .i64 e0, .int .i64 s0] 47)).alloc (.cells #[.int .i64 e1, .int .i64 s1] 47)).alloc (.cells #[.int .i64 e2, .int .i64 s2] 47)).drew.drew :=
    (((((Below.refl _ _).alloc (Nat.le_refl _) _).alloc (by simp) _).alloc (by simp <;> omega) _).drew).drew
  exact ⟨_, rfl, ⟨x, by simp <;> omega, by go_simp, by go_simp⟩, ⟨x, by simp <;> omega, by go_simp, by go_simp⟩, ⟨x, by simp, by go_simp, by go_simp⟩⟩
set_option maxHeartbeats 2000000 in
theorem refuses_any {a : Value} {l : List UInt8} (k : Int) (w : World) (k0 : -9223372036854775808 ≤ k) (k1 : k < 9223372036854775808) (ha : Rd w a (bvs l)) (hl : l.length ≤ 140737488351232) (E : KTab w 0) :
    Calls Tryd.prog 15 #[.int .i64 k, a] w (RetQ w (.bool true)) := by
  obtain ⟨n0, n1⟩ := near_bd k
  have hn := near_in k
  obtain ⟨e0, e1⟩ := sigE_bd (nearI k) l
  obtain ⟨s0, s1⟩ := sigS_bd (nearI k) l
  have p0 := pw_lo 4 (nearI k)
  have p1 := pw_hi 4 (nearI k)
  have pe := pub_elem n0 n1
  have HN := Lib.hid (neg_elem (by have := isElem_in pe; omega) p1 pe)
  clear pe
  go_enter Tryd.func15, Tryd.ntmps15
  go_wp2_with fail
  refine (near_any _ _ k0 k1).mono ?_
  rintro e w' ⟨rfl, rfl⟩
  go_wp2_with fail
  refine (refpublic_yes _ _ hn).mono ?_
  rintro e w' ⟨rfl, rfl⟩
  go_wp2_with fail
  refine (sign_yes _ _ hn ha (by omega) E).mono ?_
  rintro e w1 ⟨rfl, b1⟩
  unfold sgV
  obtain ⟨wa, hwa, sa⟩ := sg_alloc w1 (sigE (nearI k) l) (sigS (nearI k) l)
  go_wp2_with fail
  clear hwa sa
  go_region
  all_goals go_wp2_with fail
  all_goals go_region
  · go_wp2_with fail
    obtain ⟨wz, hwz, t0, t1, t2⟩ := sg_alloc3 w1 (sigE (nearI k) l) (sigS (nearI k) l) (sigE (nearI k) l + 1073741789) (sigS (nearI k) l) (sigE (nearI k) l) (sigS (nearI k) l + 1073741789)
    rw [← hwz]
    clear hwz
    have x1 := b1.tr t0.ext
    refine (awake9_any _ (E.below x1)).mono ?_
    rintro e w2 ⟨rfl, b2⟩
    have x2 := x1.tr b2
    have q10 := (t1.keep b2).c0
    have q11 := (t1.keep b2).c1
    go_wp2_with fail
    refine (verify_any _ _ _ _ (ha.ext x2) (by omega) (E.below x2)).mono ?_
    rw [verB_e (inB_no (by omega))]
    rintro e w3 ⟨rfl, b3⟩
    clear q10 q11
    have x3 := x2.tr b3
    have q20 := (t2.keep (b2.tr b3)).c0
    have q21 := (t2.keep (b2.tr b3)).c1
    go_wp2_with fail
    refine (verify_any _ _ _ _ (ha.ext x3) (by omega) (E.below x3)).mono ?_
    rw [verB_s (inB_no (by omega))]
    rintro e w4 ⟨rfl, b4⟩
    clear q20 q21
    have x4 := x3.tr b4
    have r0 := (t0.keep ((b2.tr b3).tr b4)).c0
    have r1 := (t0.keep ((b2.tr b3).tr b4)).c1
    go_wp2_with fail
    refine (verify_any _ _ _ _ (ha.ext x4) (by omega) (E.below x4)).mono ?_
    rw [verB_p HN.out]
    rintro e w5 ⟨rfl, b5⟩
    clear r0 r1
    have x5 := x4.tr b5
    have r0 := (t0.keep (((b2.tr b3).tr b4).tr b5)).c0
    have r1 := (t0.keep (((b2.tr b3).tr b4).tr b5)).c1
    go_wp2_with fail
    refine (verify_any _ _ _ _ (ha.ext x5) (by omega) (E.below x5)).mono ?_
    rw [verB_p (isElem_out _ (inB_no (by omega)))]
    rintro e w6 ⟨rfl, b6⟩
    clear r0 r1
    have x6 := x5.tr b6
    have r0 := (t0.keep ((((b2.tr b3).tr b4).tr b5).tr b6)).c0
    have r1 := (t0.keep ((((b2.tr b3).tr b4).tr b5).tr b6)).c1
    go_wp2_with fail
    refine (verify_any _ _ _ _ (ha.ext x6) (by omega) (E.below x6)).mono ?_
    rw [verB_p (isElem_out _ (inB_no (by omega)))]
    rintro e w7 ⟨rfl, b7⟩
    go_wp2_with fail
    go_ret
    exact ⟨rfl, x6.tr b7⟩
  · go_wp2_with fail
    obtain ⟨wz, hwz, t0, t1, t2⟩ := sg_alloc3 w1 (sigE (nearI k) l) (sigS (nearI k) l) (sigE (nearI k) l) (sigS (nearI k) l + 1073741789) (sigE (nearI k) l + 1073741789) (sigS (nearI k) l)
    rw [← hwz]
    clear hwz
    have x1 := b1.tr t0.ext
    refine (awake9_any _ (E.below x1)).mono ?_
    rintro e w2 ⟨rfl, b2⟩
    have x2 := x1.tr b2
    have q10 := (t2.keep b2).c0
    have q11 := (t2.keep b2).c1
    go_wp2_with fail
    refine (verify_any _ _ _ _ (ha.ext x2) (by omega) (E.below x2)).mono ?_
    rw [verB_e (inB_no (by omega))]
    rintro e w3 ⟨rfl, b3⟩
    clear q10 q11
    have x3 := x2.tr b3
    have q20 := (t1.keep (b2.tr b3)).c0
    have q21 := (t1.keep (b2.tr b3)).c1
    go_wp2_with fail
    refine (verify_any _ _ _ _ (ha.ext x3) (by omega) (E.below x3)).mono ?_
    rw [verB_s (inB_no (by omega))]
    rintro e w4 ⟨rfl, b4⟩
    clear q20 q21
    have x4 := x3.tr b4
    have r0 := (t0.keep ((b2.tr b3).tr b4)).c0
    have r1 := (t0.keep ((b2.tr b3).tr b4)).c1
    go_wp2_with fail
    refine (verify_any _ _ _ _ (ha.ext x4) (by omega) (E.below x4)).mono ?_
    rw [verB_p HN.out]
    rintro e w5 ⟨rfl, b5⟩
    clear r0 r1
    have x5 := x4.tr b5
    have r0 := (t0.keep (((b2.tr b3).tr b4).tr b5)).c0
    have r1 := (t0.keep (((b2.tr b3).tr b4).tr b5)).c1
    go_wp2_with fail
    refine (verify_any _ _ _ _ (ha.ext x5) (by omega) (E.below x5)).mono ?_
    rw [verB_p (isElem_out _ (inB_no (by omega)))]
    rintro e w6 ⟨rfl, b6⟩
    clear r0 r1
    have x6 := x5.tr b6
    have r0 := (t0.keep ((((b2.tr b3).tr b4).tr b5).tr b6)).c0
    have r1 := (t0.keep ((((b2.tr b3).tr b4).tr b5).tr b6)).c1
    go_wp2_with fail
    refine (verify_any _ _ _ _ (ha.ext x6) (by omega) (E.below x6)).mono ?_
    rw [verB_p (isElem_out _ (inB_no (by omega)))]
    rintro e w7 ⟨rfl, b7⟩
    go_wp2_with fail
    go_ret
    exact ⟨rfl, x6.tr b7⟩
end Go.Proofs.YteihfboomegpkaaDoor
