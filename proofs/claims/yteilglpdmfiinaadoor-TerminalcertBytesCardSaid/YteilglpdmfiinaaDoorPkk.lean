/- Parts La Lb of the proof. -/
import Derived.Test.YteilglpdmfiinaaDoorPkj
import Derived.Test.YteilglpdmfiinaaDoorMl
import Derived.Test.YteilglpdmfiinaaDoorEv
namespace Go.Proofs.YteilglpdmfiinaaDoor
open Go.RowKit
set_option linter.unusedVariables false
set_option maxRecDepth 100000

def rootN : List UInt8 := [82, 79, 79, 84, 49]
def homeN : List UInt8 := [72, 79, 77, 69, 49]
def kRoot : Int := holderK rootN
theorem kRoot_in : inB 1 1073741789 kRoot = true := near_in _
theorem holderK_in (l : List UInt8) : inB 1 1073741789 (holderK l) = true := near_in _
theorem elem_holder (l : List UInt8) : isElem (pw 4 (holderK l)) = true := by
  obtain ⟨h0, h1⟩ := inB_true (holderK_in l)
  exact pub_elem h0 h1
theorem name_root : nameP rootN := by decide
theorem name_home : nameP homeN := by decide
def awC (ph : Int) : TC := ⟨rootN, homeN, ph, 2, 3, 10, 20, 0, 0⟩
theorem ck_awC {ph : Int} (h : isElem ph = true) : ckT (awC ph) = 0 := ck_ok name_root name_home h (by show ¬ ((2 : Int) < 1 ∨ 4 < (2 : Int)); omega) (by show ¬ ((3 : Int) < 0 ∨ 65535 < (3 : Int)); omega) (by show (0 : Int) ≤ 10 ∧ (10 : Int) ≤ 20 ∧ (20 : Int) ≤ 73048; omega)
theorem ck_zero : ckT zeroT = 60 := ck_au (by decide)
theorem tsecret_root (w : World) : Calls Tryd.prog 31 #[.string ⟨#[82, 79, 79, 84, 49]⟩] w fun e w' => e = .returned (.int .i64 kRoot) ∧ w = w' :=
  tsecret_any _ w (by unfold maxLen; decide)
theorem holder_root (w : World) : Calls Tryd.prog 32 #[.string ⟨#[82, 79, 79, 84, 49]⟩] w fun e w' => e = .returned (.int .i64 (pw 4 kRoot)) ∧ w = w' :=
  holder_any _ w (by unfold maxLen; decide)
theorem holder_home (w : World) : Calls Tryd.prog 32 #[.string ⟨#[72, 79, 77, 69, 49]⟩] w fun e w' => e = .returned (.int .i64 (pw 4 (holderK homeN))) ∧ w = w' :=
  holder_any _ w (by unfold maxLen; decide)
theorem run_buildZ (W : World) : (Instr.build 25 ([] : List (Nat × Value)).toArray).run Tryd.prog W = .ok (tcV zeroT) W := run_build W _ _ _ (by kernel_rfl)
set_option maxHeartbeats 4000000 in
theorem awake24_core (kr ph pr : Int) (hk : inB 1 1073741789 kr = true) (he : isElem ph = true) (hp : pr = pw 4 kr)
    (F1 : ∀ w : World, Calls Tryd.prog 31 #[.string ⟨#[82, 79, 79, 84, 49]⟩] w fun e w' => e = .returned (.int .i64 kr) ∧ w = w')
    (F2 : ∀ w : World, Calls Tryd.prog 32 #[.string ⟨#[72, 79, 77, 69, 49]⟩] w fun e w' => e = .returned (.int .i64 ph) ∧ w = w')
    (F3 : ∀ w : World, Calls Tryd.prog 32 #[.string ⟨#[82, 79, 79, 84, 49]⟩] w fun e w' => e = .returned (.int .i64 pr) ∧ w = w')
    (w : World) (E : KTab w 1) : Calls Tryd.prog 8 #[] w (RetQ w (.bool true)) := by
  go_enter Tryd.func8, Tryd.ntmps8
  go_wp2_with fail
  refine (F1 w).mono ?_
  rintro e w' ⟨rfl, rfl⟩
  go_wp2_with fail
  refine (F2 _).mono ?_
  rintro e w' ⟨rfl, rfl⟩
  go_wp2_with fail
  have hck := ck_awC he
  refine (issue_any kr (awC ph) _ (sm_of hck) E).mono ?_
  rintro e w1 ⟨rfl, b1⟩
  have hv := valid_issue hk hck
  have h1 := vf_issue hk hck
  have h2 := vf_one (isC kr (awC ph))
  rw [isK_in hk hck]
  rw [← hp] at h1
  generalize isC kr (awC ph) = c1 at *
  have hd := dt_of hv
  have hek := ecK_valid.2 hv
  have hsm := sm_of hv.1
  have hln := ecB_len c1
  have HD := Lib.hid hd
  have H1 := Lib.hid h1
  have H2 := Lib.hid h2
  clear hd h1 h2 hv hp he hck hk
  obtain ⟨wa1, hwb1, ea1, TA1⟩ := zero_alloc w1
  have hwa1 := hwb1.symm
  clear hwb1
  obtain ⟨wc1, hwc1, ec1, TC1⟩ : ∃ wc, wc = (((((((((wa1.setCell ⟨w1.heap.size, 0, none⟩ (.string (bstr c1.au))).setCell ⟨w1.heap.size, 1, none⟩ (.string (bstr c1.ho))).setCell ⟨w1.heap.size, 2, none⟩ (.int .i64 c1.key)).setCell ⟨w1.heap.size, 3, none⟩ (.int .i64 c1.role)).setCell ⟨w1.heap.size, 4, none⟩ (.int .i64 c1.rights)).setCell ⟨w1.heap.size, 5, none⟩ (.int .i64 c1.fr)).setCell ⟨w1.heap.size, 6, none⟩ (.int .i64 c1.to)).setCell ⟨w1.heap.size, 7, none⟩ (.int .i64 c1.e)).setCell ⟨w1.heap.size, 8, none⟩ (.int .i64 c1.s)) ∧ Ext w1 wc ∧ TcAt wc w1.heap.size c1 := ⟨_, rfl, ext_setT ea1 (Nat.le_refl _) c1, TA1.setT c1⟩
  have HZ1 := Lib.hid (show wc1.heap.size = wa1.heap.size by rw [hwc1]; simp)
  have hla1 := TA1.lt
  obtain ⟨ra0, ra1, ra2, ra3, ra4, ra5, ra6, ra7, ra8⟩ := TA1.cells
  have ga0 := TA1.frozen 0
  have ga1 := TA1.frozen 1
  have ga2 := TA1.frozen 2
  have ga3 := TA1.frozen 3
  have ga4 := TA1.frozen 4
  have ga5 := TA1.frozen 5
  have ga6 := TA1.frozen 6
  have ga7 := TA1.frozen 7
  have ga8 := TA1.frozen 8
  clear ea1
  unfold tcV
  go_wp2_with fail
  rw [← hwc1]
  clear hwc1 hwa1 hla1 TA1 ra0 ga0 ra1 ga1 ra2 ga2 ra3 ga3 ra4 ga4 ra5 ga5 ra6 ga6 ra7 ga7 ra8 ga8
  refine (tencode_any c1 wc1 hsm).mono ?_
  rintro e w2 ⟨A2, n2, c2, rfl, hn2, r2, b2⟩
  have x2 := b1.tr (ec1.tr b2)
  have T2 := TC1.ext b2
  rw [hek]
  clear ec1 HZ1 TC1
  go_wp2_with fail
  refine (tdecode_any _ r2 (by omega)).mono ?_
  rintro e w3 ⟨rfl, b3⟩
  have x3 := x2.tr b3
  have T3 := T2.ext b3
  rw [HD.out.1, HD.out.2]
  clear r2 hn2 T2 hln
  obtain ⟨wa2, hwb2, ea2, TA2⟩ := zero_alloc w3
  have hwa2 := hwb2.symm
  clear hwb2
  obtain ⟨wc2, hwc2, ec2, TC2⟩ : ∃ wc, wc = (((((((((wa2.setCell ⟨w3.heap.size, 0, none⟩ (.string (bstr c1.au))).setCell ⟨w3.heap.size, 1, none⟩ (.string (bstr c1.ho))).setCell ⟨w3.heap.size, 2, none⟩ (.int .i64 c1.key)).setCell ⟨w3.heap.size, 3, none⟩ (.int .i64 c1.role)).setCell ⟨w3.heap.size, 4, none⟩ (.int .i64 c1.rights)).setCell ⟨w3.heap.size, 5, none⟩ (.int .i64 c1.fr)).setCell ⟨w3.heap.size, 6, none⟩ (.int .i64 c1.to)).setCell ⟨w3.heap.size, 7, none⟩ (.int .i64 c1.e)).setCell ⟨w3.heap.size, 8, none⟩ (.int .i64 c1.s)) ∧ Ext w3 wc ∧ TcAt wc w3.heap.size c1 := ⟨_, rfl, ext_setT ea2 (Nat.le_refl _) c1, TA2.setT c1⟩
  have HZ2 := Lib.hid (show wc2.heap.size = wa2.heap.size by rw [hwc2]; simp)
  have hla2 := TA2.lt
  obtain ⟨ra0, ra1, ra2, ra3, ra4, ra5, ra6, ra7, ra8⟩ := TA2.cells
  have ga0 := TA2.frozen 0
  have ga1 := TA2.frozen 1
  have ga2 := TA2.frozen 2
  have ga3 := TA2.frozen 3
  have ga4 := TA2.frozen 4
  have ga5 := TA2.frozen 5
  have ga6 := TA2.frozen 6
  have ga7 := TA2.frozen 7
  have ga8 := TA2.frozen 8
  clear ea2
  obtain ⟨i0, i1, i2, i3, i4, i5, i6, i7, i8⟩ := T3.cells
  have hl3 := T3.lt
  unfold tcV
  go_wp2_with fail
  rw [← hwc2]
  clear hwc2 hwa2 hla2 TA2 ra0 ga0 ra1 ga1 ra2 ga2 ra3 ga3 ra4 ga4 ra5 ga5 ra6 ga6 ra7 ga7 ra8 ga8
  have T4 := T3.ext ec2
  have x4 := x3.tr ec2
  clear i0 i1 i2 i3 i4 i5 i6 i7 i8 hl3 HZ2
  go_wp2_with fail
  refine Gd.wp_region_X 30 (by kernel_rfl) (by kernel_rfl) ?_
  simp only [List.take_succ_cons, List.take_zero, List.drop_succ_cons, List.drop_zero]
  intro wq hw1
  have LL : ∀ m : Lt wq, Ext wc2 m.1 := fun m => hw1.tr m.2
  have P0 : ∀ m : Lt wq, TcAt m.1 w1.heap.size c1 := fun m => T4.ext (LL m)
  have Q0 : ∀ m : Lt wq, TcAt m.1 w3.heap.size c1 := fun m => TC2.ext (LL m)
  have p0 := fun m : Lt wq => (P0 m).cells.1
  have q0 := fun m : Lt wq => (Q0 m).cells.1
  have p1 := fun m : Lt wq => (P0 m).cells.2.1
  have q1 := fun m : Lt wq => (Q0 m).cells.2.1
  have p2 := fun m : Lt wq => (P0 m).cells.2.2.1
  have q2 := fun m : Lt wq => (Q0 m).cells.2.2.1
  have p3 := fun m : Lt wq => (P0 m).cells.2.2.2.1
  have q3 := fun m : Lt wq => (Q0 m).cells.2.2.2.1
  have p4 := fun m : Lt wq => (P0 m).cells.2.2.2.2.1
  have q4 := fun m : Lt wq => (Q0 m).cells.2.2.2.2.1
  have p5 := fun m : Lt wq => (P0 m).cells.2.2.2.2.2.1
  have q5 := fun m : Lt wq => (Q0 m).cells.2.2.2.2.2.1
  have p6 := fun m : Lt wq => (P0 m).cells.2.2.2.2.2.2.1
  have q6 := fun m : Lt wq => (Q0 m).cells.2.2.2.2.2.2.1
  have p7 := fun m : Lt wq => (P0 m).cells.2.2.2.2.2.2.2.1
  have q7 := fun m : Lt wq => (Q0 m).cells.2.2.2.2.2.2.2.1
  have p8 := fun m : Lt wq => (P0 m).cells.2.2.2.2.2.2.2.2
  have q8 := fun m : Lt wq => (Q0 m).cells.2.2.2.2.2.2.2.2
  repeat (refine Gd.wpX_pure (by first | exact trivial | exact ⟨_, rfl, rfl, rfl⟩) rfl rfl rfl rfl rfl (fun K hK => ?_); go_big_quiet_op; refine hK _ ?_; clear hK K)
  refine Gd.wpX_callFn (by first | exact trivial | exact ⟨_, rfl, rfl, rfl⟩) (.int .i64 (pr)) rfl rfl rfl rfl (by kernel_rfl) rfl rfl (fun m => (F3 m.1).mono fun _ _ ⟨h1, h2⟩ => ⟨h1, h2 ▸ Below.refl _ _⟩) ?_
  simp only [Act.put, List.setIfInBounds_toArray, List.set_cons_zero, List.set_cons_succ]
  repeat (refine Gd.wpX_pure (by first | exact trivial | exact ⟨_, rfl, rfl, rfl⟩) rfl rfl rfl rfl rfl (fun K hK => ?_); go_big_quiet_op; refine hK _ ?_; clear hK K)
  refine Gd.wpX_callFn (by first | exact trivial | exact ⟨_, rfl, rfl, rfl⟩) (.bool true) (args := [.int .i64 (pr), tcV c1]) rfl rfl rfl rfl (by kernel_rfl) rfl rfl (fun m => (tverify_any (pr) c1 m.1 hsm (E.below (x4.tr (LL m)))).mono fun _ _ ⟨h1, h2⟩ => ⟨by rw [h1, H1.out], h2⟩) ?_
  simp only [Act.put, List.setIfInBounds_toArray, List.set_cons_zero, List.set_cons_succ]
  repeat (refine Gd.wpX_pure (by first | exact trivial | exact ⟨_, rfl, rfl, rfl⟩) rfl rfl rfl rfl rfl (fun K hK => ?_); go_big_quiet_op; refine hK _ ?_; clear hK K)
  refine Gd.wpX_callFn (by first | exact trivial | exact ⟨_, rfl, rfl, rfl⟩) (.bool false) (args := [.int .i64 1, tcV c1]) rfl rfl rfl rfl (by kernel_rfl) rfl rfl (fun m => (tverify_any 1 c1 m.1 hsm (E.below (x4.tr (LL m)))).mono fun _ _ ⟨h1, h2⟩ => ⟨by rw [h1, H2.out], h2⟩) ?_
  simp only [Act.put, List.setIfInBounds_toArray, List.set_cons_zero, List.set_cons_succ]
  repeat (refine Gd.wpX_pure (by first | exact trivial | exact ⟨_, rfl, rfl, rfl⟩) rfl rfl rfl rfl rfl (fun K hK => ?_); go_big_quiet_op; refine hK _ ?_; clear hK K)
  refine Gd.wpX_buildL (by first | exact trivial | exact ⟨_, rfl, rfl, rfl⟩) (fun v _ => v = tcV zeroT) (stable_eq _) (fun _ => []) rfl rfl rfl rfl rfl (fun _ => rfl) (fun m f hf => ⟨_, _, run_buildZ m.1, Below.refl _ _, rfl⟩) ?_
  simp only [Act.put, List.setIfInBounds_toArray, List.set_cons_zero, List.set_cons_succ]
  refine Gd.wpX_callUse (by first | exact trivial | exact ⟨_, rfl, rfl, rfl⟩) 50 _ (.int .i64 60) (fun u => [u]) rfl rfl rfl rfl rfl rfl rfl (fun u => rfl) (by kernel_rfl) (fun u => rfl) (fun m u hu => by
    rw [show u = tcV zeroT from hu]
    exact (checkP_any zeroT m.1 ⟨Nat.zero_le _, Nat.zero_le _⟩).mono fun _ _ ⟨h1, h2⟩ => ⟨by rw [h1, ck_zero], h2⟩) ?_
  simp only [Act.put, List.setIfInBounds_toArray, List.set_cons_zero, List.set_cons_succ]
  repeat (refine Gd.wpX_pure (by first | exact trivial | exact ⟨_, rfl, rfl, rfl⟩) rfl rfl rfl rfl rfl (fun K hK => ?_); go_big_quiet_op; refine hK _ ?_; clear hK K)
  refine Gd.wpX_endL (fun m f hf => ?_)
  simp only [fillH]
  simp only [Act.put, List.setIfInBounds_toArray, List.set_cons_zero, List.set_cons_succ]
  have Lm := x4.tr (LL m)
  obtain ⟨wm, hwm⟩ := m
  clear hf LL P0 Q0 p0 p1 p2 p3 p4 p5 p6 p7 p8 q0 q1 q2 q3 q4 q5 q6 q7 q8
  show wpList _ _ _ _ _ _
  go_wp2_with fail
  go_ret
  exact ⟨rfl, Lm⟩
theorem awake24_any (w : World) (E : KTab w 1) : Calls Tryd.prog 8 #[] w (RetQ w (.bool true)) :=
  awake24_core kRoot (pw 4 (holderK homeN)) (pw 4 kRoot) kRoot_in (elem_holder _) rfl tsecret_root holder_home holder_root w E
end Go.Proofs.YteilglpdmfiinaaDoor

namespace Go.Proofs.YteilglpdmfiinaaDoor
open Go.RowKit
set_option linter.unusedVariables false
set_option maxRecDepth 100000

def ltT (c : TC) : Prop := c.au.length ≤ 100 ∧ c.ho.length ≤ 100
instance (c : TC) : Decidable (ltT c) := inferInstanceAs (Decidable (_ ∧ _))
theorem tlight_any (c : TC) (w : World) : Calls Tryd.prog 9 #[tcV c] w (RetQ w (.bool (decide (ltT c)))) := by
  have hz1 : (bstr c.au).size = c.au.length := by show c.au.toArray.size = _; simp
  have hz2 : (bstr c.ho).size = c.ho.length := by show c.ho.toArray.size = _; simp
  have x0 : Ext w (w.alloc (.cells #[.string (bstr c.au), .string (bstr c.ho), .int .i64 c.key, .int .i64 c.role, .int .i64 c.rights, .int .i64 c.fr, .int .i64 c.to, .int .i64 c.e, .int .i64 c.s] 25)) := (Below.refl _ _).alloc (Nat.le_refl _) _
  by_cases h1 : c.au.length ≤ 100
  · by_cases h2 : c.ho.length ≤ 100
    · have HN := Lib.hid (show decide (ltT c) = true from decide_eq_true ⟨h1, h2⟩)
      have k1 : decide (((bstr c.au).size : Int) ≤ 100) = true := by rw [hz1]; exact decide_eq_true (by omega)
      have k2 : decide (((bstr c.ho).size : Int) ≤ 100) = true := by rw [hz2]; exact decide_eq_true (by omega)
      clear hz1 hz2 h1 h2
      unfold tcV
      go_enter Tryd.func9, Tryd.ntmps9
      go_wp2_with fail
      go_ret
      exact ⟨by rw [HN.out]; simp, x0⟩
    · have HN := Lib.hid (show decide (ltT c) = false from decide_eq_false fun q => h2 q.2)
      have k1 : decide (((bstr c.au).size : Int) ≤ 100) = true := by rw [hz1]; exact decide_eq_true (by omega)
      have k2 : decide (((bstr c.ho).size : Int) ≤ 100) = false := by rw [hz2]; exact decide_eq_false (by omega)
      clear hz1 hz2 h1 h2
      unfold tcV
      go_enter Tryd.func9, Tryd.ntmps9
      go_wp2_with fail
      go_ret
      exact ⟨by rw [HN.out]; simp, x0⟩
  · have HN := Lib.hid (show decide (ltT c) = false from decide_eq_false fun q => h1 q.1)
    have k1 : decide (((bstr c.au).size : Int) ≤ 100) = false := by rw [hz1]; exact decide_eq_false (by omega)
    clear hz1 hz2 h1
    unfold tcV
    go_enter Tryd.func9, Tryd.ntmps9
    go_wp2_with fail
    go_ret
    exact ⟨by rw [HN.out]; simp, x0⟩
theorem sm_isC {k : Int} {c : TC} (h : smT c) : smT (isC k c) := by
  unfold isC
  split
  · exact h
  · exact ⟨Nat.zero_le _, Nat.zero_le _⟩
end Go.Proofs.YteilglpdmfiinaaDoor
