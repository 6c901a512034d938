/- The walks of the laws 09: SignSigns, SignVerifies. -/
import Derived.Test.YteihfboomegpkaaDoorL9
namespace Go.Proofs.YteihfboomegpkaaDoor
open Go.RowKit
set_option linter.unusedVariables false
set_option maxRecDepth 100000

def sE (k : Int) (l : List UInt8) : Int := if inB 1 1073741789 k = true then sigE k l else 0
def sS (k : Int) (l : List UInt8) : Int := if inB 1 1073741789 k = true then sigS k l else 0
def sK (k : Int) : Int := if inB 1 1073741789 k = true then 0 else 3
theorem sign_any {a : Value} {l : List UInt8} (k : Int) (w : World) (ha : Rd w a (bvs l)) (hl : l.length ≤ 140737488352000) (E : KTab w 0) :
    Calls Tryd.prog 39 #[.int .i64 k, a] w (RetQ w (sgV (sE k l) (sS k l) (sK k))) := by
  unfold sE sS sK
  by_cases h : inB 1 1073741789 k = true
  · rw [if_pos h, if_pos h, if_pos h]; exact sign_yes k w h ha hl E
  · rw [if_neg h, if_neg h, if_neg h]; exact sign_no k w (not_true h) ha
theorem refsign_any {a : Value} {l : List UInt8} (k : Int) (w : World) (ha : Rd w a (bvs l)) (hl : l.length ≤ 140737488352000) (E : KTab w 1) :
    Calls Tryd.prog 40 #[.int .i64 k, a] w (RetQ w (sgV (sE k l) (sS k l) (sK k))) := by
  unfold sE sS sK
  by_cases h : inB 1 1073741789 k = true
  · rw [if_pos h, if_pos h, if_pos h]; exact refsign_yes k w h ha hl E
  · rw [if_neg h, if_neg h, if_neg h]; exact refsign_no k w (not_true h) ha
theorem sK_near (x : Int) : sK (nearI x) = 0 := if_pos (near_in x)
/-- A new signature's block. -/
structure SgAt (w wa : World) (g : Nat) (e s : Int) : Prop where
  ext : Ext w wa
  lt : g < wa.heap.size
  c0 : wa.cell? ⟨g, 0, none⟩ = some (.int .i64 e)
  c1 : wa.cell? ⟨g, 1, none⟩ = some (.int .i64 s)
theorem sg_alloc (w : World) (e s : Int) : ∃ wa, wa = w.alloc (.cells #[.int .i64 e, .int .i64 s] 47) ∧ SgAt w wa w.heap.size e s :=
  ⟨_, rfl, (Below.refl _ _).alloc (Nat.le_refl _) _, by simp, by go_simp, by go_simp⟩
theorem SgAt.keep {w wa wb : World} {g : Nat} {e s : Int} (h : SgAt w wa g e s) (b : Ext wa wb) : SgAt w wb g e s :=
  ⟨h.ext.tr b, Nat.lt_of_lt_of_le h.lt b.size, (b.cell (p := ⟨g, 0, none⟩) h.lt).trans h.c0, (b.cell (p := ⟨g, 1, none⟩) h.lt).trans h.c1⟩
set_option maxHeartbeats 2000000 in
theorem signs_any {a : Value} {l : List UInt8} (k : Int) (w : World) (k0 : -9223372036854775808 ≤ k) (k1 : k < 9223372036854775808) (ha : Rd w a (bvs l)) (hl : l.length ≤ 140737488351232) (E : Env w) :
    Calls Tryd.prog 12 #[.int .i64 k, a] w (RetQ w (.bool true)) := by
  have HK := Lib.hid (sK_near k)
  go_enter Tryd.func12, Tryd.ntmps12
  go_wp2_with fail
  refine (sign_any _ _ ha (by omega) E.d).mono ?_
  rintro e w1 ⟨rfl, b1⟩
  unfold sgV
  obtain ⟨wa, hwa, sa⟩ := sg_alloc w1 (sE k l) (sS k l)
  go_wp2_with fail
  rw [← hwa]
  clear hwa
  have x1 := b1.tr sa.ext
  refine (refsign_any _ _ (ha.ext x1) (by omega) (E.ext x1).r).mono ?_
  rintro e w2 ⟨rfl, b2⟩
  unfold sgV
  obtain ⟨wb, hwb, sb⟩ := sg_alloc w2 (sE k l) (sS k l)
  go_wp2_with fail
  rw [← hwb]
  clear hwb
  have x2 := (x1.tr b2).tr sb.ext
  refine (near_any _ _ k0 k1).mono ?_
  rintro e w' ⟨rfl, rfl⟩
  go_wp2_with fail
  refine (sign_any _ _ (ha.ext x2) (by omega) (E.ext x2).d).mono ?_
  rintro e w3 ⟨rfl, b3⟩
  unfold sgV
  obtain ⟨wc, hwc, sc⟩ := sg_alloc w3 (sE (nearI k) l) (sS (nearI k) l)
  rw [HK.out]
  go_wp2_with fail
  rw [← hwc]
  clear hwc
  have x3 := (x2.tr b3).tr sc.ext
  refine (near_any _ _ k0 k1).mono ?_
  rintro e w' ⟨rfl, rfl⟩
  go_wp2_with fail
  refine (refsign_any _ _ (ha.ext x3) (by omega) (E.ext x3).r).mono ?_
  rintro e w4 ⟨rfl, b4⟩
  unfold sgV
  obtain ⟨wd, hwd, sd⟩ := sg_alloc w4 (sE (nearI k) l) (sS (nearI k) l)
  rw [HK.out]
  go_wp2_with fail
  rw [← hwd]
  clear hwd
  have x4 := (x3.tr b4).tr sd.ext
  refine (awake9_any _ (E.ext x4).d).mono ?_
  rintro e w5 ⟨rfl, b5⟩
  have ta := sa.keep ((((((b2.tr sb.ext).tr b3).tr sc.ext).tr b4).tr sd.ext).tr b5)
  have tb := sb.keep ((((b3.tr sc.ext).tr b4).tr sd.ext).tr b5)
  have tc := sc.keep ((b4.tr sd.ext).tr b5)
  have td := sd.keep b5
  have qa0 := ta.c0
  have qa1 := ta.c1
  have qb0 := tb.c0
  have qb1 := tb.c1
  have qc0 := tc.c0
  have qc1 := tc.c1
  have qd0 := td.c0
  have qd1 := td.c1
  go_wp2_with fail
  go_ret
  exact ⟨rfl, x4.tr b5⟩
set_option maxHeartbeats 2000000 in
theorem verifies_any {a : Value} {l : List UInt8} (p e s : Int) (w : World) (ha : Rd w a (bvs l)) (hl : l.length ≤ 140737488351232) (E : Env w) :
    Calls Tryd.prog 13 #[.int .i64 p, a, .agg #[.int .i64 e, .int .i64 s]] w (RetQ w (.bool true)) := by
  obtain ⟨wa, hwa, sa⟩ := sg_alloc w e s
  have SA := fun (W : World) (h : Ext wa W) => sa.keep h
  have ha0 := ha
  obtain ⟨A, n1, c, rfl, hn1, hnc, hcm, hA⟩ := ha.bytes
  subst hn1
  clear hA ha
  go_enter Tryd.func13, Tryd.ntmps13
  go_wp2_with fail
  rw [← hwa]
  have S0 := Lib.hid SA
  clear SA hwa
  refine Gd.wp_region_X 12 (by kernel_rfl) (by kernel_rfl) ?_
  simp only [List.take_succ_cons, List.take_zero, List.drop_succ_cons, List.drop_zero]
  intro w1 hw1
  have L : ∀ m : Lt w1, Ext wa m.1 := fun m => hw1.tr m.2
  have X : ∀ m : Lt w1, Ext w m.1 := fun m => sa.ext.tr (L m)
  have q0 : ∀ m : Lt w1, m.1.cell? ⟨w.heap.size, 0, none⟩ = some (.int .i64 e) := fun m => (S0.out _ (L m)).c0
  have q1 : ∀ m : Lt w1, m.1.cell? ⟨w.heap.size, 1, none⟩ = some (.int .i64 s) := fun m => (S0.out _ (L m)).c1
  refine Gd.wpX_callFn (by first | exact trivial | exact ⟨_, rfl, rfl, rfl⟩) (.bool true) rfl rfl rfl rfl (by kernel_rfl) rfl rfl (fun m => awake9_any _ (E.ext (X m)).d) ?_
  simp only [Act.put, List.setIfInBounds_toArray, List.set_cons_zero, List.set_cons_succ]
  repeat (refine Gd.wpX_pure (by first | exact trivial | exact ⟨_, rfl, rfl, rfl⟩) rfl rfl rfl rfl rfl (fun K hK => ?_); go_big_quiet_op; refine hK _ ?_; clear hK K)
  refine Gd.wpX_callFn (by first | exact trivial | exact ⟨_, rfl, rfl, rfl⟩) (.bool (verB p l e s)) rfl rfl rfl rfl (by kernel_rfl) rfl rfl (fun m => verify_any _ _ _ _ (ha0.ext (X m)) (by omega) (E.ext (X m)).d) ?_
  simp only [Act.put, List.setIfInBounds_toArray, List.set_cons_zero, List.set_cons_succ]
  repeat (refine Gd.wpX_pure (by first | exact trivial | exact ⟨_, rfl, rfl, rfl⟩) rfl rfl rfl rfl rfl (fun K hK => ?_); go_big_quiet_op; refine hK _ ?_; clear hK K)
  refine Gd.wpX_callFn (by first | exact trivial | exact ⟨_, rfl, rfl, rfl⟩) (.bool (verB p l e s)) rfl rfl rfl rfl (by kernel_rfl) rfl rfl (fun m => refverify_any _ _ _ _ (ha0.ext (X m)) (by omega) (E.ext (X m)).r) ?_
  simp only [Act.put, List.setIfInBounds_toArray, List.set_cons_zero, List.set_cons_succ]
  repeat (refine Gd.wpX_pure (by first | exact trivial | exact ⟨_, rfl, rfl, rfl⟩) rfl rfl rfl rfl rfl (fun K hK => ?_); go_big_quiet_op; refine hK _ ?_; clear hK K)
  refine Gd.wpX_end0 (fun m => ?_)
  have Lm := X m
  obtain ⟨wy, hwy⟩ := m
  clear L X q0 q1
  go_wp2_with fail
  go_ret
  exact ⟨rfl, Lm⟩
end Go.Proofs.YteihfboomegpkaaDoor
