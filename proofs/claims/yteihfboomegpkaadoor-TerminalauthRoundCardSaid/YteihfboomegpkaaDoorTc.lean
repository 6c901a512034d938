/- Layer 27: what wakes its laws. -/
import Derived.Test.YteihfboomegpkaaDoorTb
import Derived.Test.YteihfboomegpkaaDoorWm
namespace Go.Proofs.YteihfboomegpkaaDoor
open Go.RowKit
set_option linter.unusedVariables false
set_option maxRecDepth 100000

theorem prove_right (x : Int) {id ch sh : List UInt8} (ok : taOk id ch sh) : pvK (nearI x) id ch sh = 0 ∧ verB (pw 4 (nearI x)) (taMsg id ch sh) (pvE (nearI x) id ch sh) (pvS (nearI x) id ch sh) = true := by
  have h0 : 1 ≤ nearI x := by unfold nearI; omega
  have h1 : nearI x < 1073741789 := by unfold nearI; omega
  unfold pvK pvE pvS sE sS
  rw [if_pos ok, if_pos ok, if_pos ok, sK_near, if_pos (near_in x), if_pos (near_in x)]
  exact ⟨rfl, sig_verifies h0 h1 _⟩
/-- The name "TERM1". -/
def termX : Int := secName [84, 69, 82, 77, 49]
theorem holder_term (w : World) : Calls Tryd.prog 89 #[.string ⟨#[84, 69, 82, 77, 49]⟩] w fun e w' => e = .returned (.int .i64 (pw 4 (nearI termX))) ∧ w = w' :=
  holder_any _ w (by unfold maxLen; decide)
theorem tsecret_term (w : World) : Calls Tryd.prog 88 #[.string ⟨#[84, 69, 82, 77, 49]⟩] w fun e w' => e = .returned (.int .i64 (nearI termX)) ∧ w = w' :=
  tsecret_any _ w (by unfold maxLen; decide)
theorem rdID (w : World) : Rd (w.alloc (.cells #[.int .u8 73, .int .u8 68] 5 (2, 3))) (.slice (some ⟨w.heap.size, 0, none⟩) 2 2) (bvs [73, 68]) := Rd.litM w _ _ _ 2 rfl (by unfold maxLen; omega)
theorem chain_build (k : Int) (W : World) : (Instr.build 65 [(0, .string ⟨#[84, 69, 82, 77, 49]⟩), (1, .int .i64 k), (2, .int .i64 4), (3, .int .i64 5)].toArray).run Tryd.prog W = .ok (chainV ⟨#[84, 69, 82, 77, 49]⟩ k 4 5 0 0) W := run_build W _ _ _ (by kernel_rfl)
set_option maxHeartbeats 2000000 in
theorem awake27_any (w : World) (E : KTab w 0) : Calls Tryd.prog 52 #[] w (RetQ w (.bool true)) := by
  have kc := fun (w : World) (C : Array Value) (n c : Nat) => Lib.run_convert_bytes_const (P := Tryd.prog) w 22 5 C n c Tryd.underlying22 Tryd.underlying5
  go_enter Tryd.func52, Tryd.ntmps52
  go_wp2_with fail
  refine (nonce_any 3 w).mono ?_
  rintro e w1 ⟨A, n, c, rfl, hn, o, b1⟩
  have hN8 := nonceL_length 3
  generalize nonceL 3 = N at *
  have ok : taOk [73, 68] N N := ⟨by simp, by simp, hN8, hN8⟩
  obtain ⟨pk, pv⟩ := prove_right termX ok
  have rN := o.rd
  go_wp2_with fail
  refine (tsecret_term _).mono ?_
  rintro e w' ⟨rfl, rfl⟩
  have e2 : Ext w1 (w1.alloc (.cells #[.int .u8 73, .int .u8 68] 5 (2, 3))) := (Below.refl _ _).alloc (Nat.le_refl _) _
  go_wp2_with fail
  refine (prove_any _ _ (rdID w1) (rN.ext e2) (rN.ext e2) (E.below (b1.tr e2))).mono ?_
  rintro e w2 ⟨rfl, b2⟩
  unfold sgV
  rw [pk]
  generalize pvE (nearI termX) [73, 68] N N = e1 at *
  generalize pvS (nearI termX) [73, 68] N N = s1 at *
  obtain ⟨wa, hwa, sa⟩ := sg_alloc w2 e1 s1
  go_wp2_with fail
  rw [← hwa]
  clear hwa kc
  have x2 := ((b1.tr e2).tr b2).tr sa.ext
  have SA := Lib.hid (fun (W : World) (h : Ext wa W) => sa.keep h)
  have acc : acB (pw 4 (nearI termX)) 4 [73, 68] N N e1 s1 := ⟨rfl, ok, pv⟩
  have rNa := rN.ext ((e2.tr b2).tr sa.ext)
  have HT := holder_term
  generalize pw 4 (nearI termX) = key at *
  have HB := fun (W : World) => (by go_simp : (Instr.buildSlice 22 2 [(0, .int .u8 73), (1, .int .u8 68)].toArray).run Tryd.prog W = .ok (.slice (some ⟨W.heap.size, 0, none⟩) 2 2) (W.alloc (.cells #[.int .u8 73, .int .u8 68] 5)))
  refine Gm.wp_region_X 13 (by kernel_rfl) (by kernel_rfl) ?_
  simp only [List.take_succ_cons, List.take_zero, List.drop_succ_cons, List.drop_zero]
  intro w3 hw3
  have L : ∀ m : Lt w3, Ext wa m.1 := fun m => hw3.tr m.2
  have X : ∀ m : Lt w3, Ext w m.1 := fun m => x2.tr (L m)
  have q0 : ∀ m : Lt w3, m.1.cell? ⟨w2.heap.size, 0, none⟩ = some (.int .i64 e1) := fun m => (SA.out _ (L m)).c0
  have q1 : ∀ m : Lt w3, m.1.cell? ⟨w2.heap.size, 1, none⟩ = some (.int .i64 s1) := fun m => (SA.out _ (L m)).c1
  refine Gm.wpX_callFn (by first | exact trivial | exact ⟨_, rfl, rfl, rfl⟩) (.int .i64 key) rfl rfl rfl rfl (by kernel_rfl) rfl rfl (fun m => (HT m.1).mono fun _ _ ⟨h1, h2⟩ => ⟨h1, h2 ▸ Gm.ExtM.refl _ _⟩) ?_
  simp only [Act.put, List.setIfInBounds_toArray, List.set_cons_zero, List.set_cons_succ]
  refine Gm.wpX_buildS (by first | exact trivial | exact ⟨_, rfl, rfl, rfl⟩) (chainV ⟨#[84, 69, 82, 77, 49]⟩ key 4 5 0 0) (chain_build key) rfl rfl rfl rfl rfl ?_
  simp only [Act.put, List.setIfInBounds_toArray, List.set_cons_zero, List.set_cons_succ]
  refine Gm.wpX_build (by first | exact trivial | exact ⟨_, rfl, rfl, rfl⟩) (e := 5) (cs := #[.int .u8 73, .int .u8 68]) HB rfl rfl rfl rfl rfl ?_
  simp only [Act.put, List.setIfInBounds_toArray, List.set_cons_zero, List.set_cons_succ]
  refine Gm.wpX_mark (by first | exact trivial | exact ⟨_, rfl, rfl, rfl⟩) 21 Tryd.underlying22 Tryd.underlying5 rfl rfl rfl rfl rfl rfl rfl ?_
  simp only [Act.put, List.setIfInBounds_toArray, List.set_cons_zero, List.set_cons_succ]
  repeat (refine Gm.wpX_pure (by first | exact trivial | exact ⟨_, rfl, rfl, rfl⟩) rfl rfl rfl rfl rfl (fun K hK => ?_); go_big_quiet_op; refine hK _ ?_; clear hK K)
  refine Gm.wpX_callUse (by first | exact trivial | exact ⟨_, rfl, rfl, rfl⟩) 22 _ (.tuple #[.int .i64 5, .bool true]) (fun u => [chainV ⟨#[84, 69, 82, 77, 49]⟩ key 4 5 0 0, u, .slice A n c, .slice A n c, .agg #[.int .i64 e1, .int .i64 s1]]) rfl rfl rfl rfl rfl rfl rfl (fun u => rfl) (by kernel_rfl) (fun u => rfl) (fun m u hu => (accept_any (id := [73, 68]) (ch := N) (sh := N) _ _ _ _ _ _ _ _ m.1 (hu.rd rfl (by unfold maxLen; omega)) (rNa.ext (L m)) (rNa.ext (L m)) (E.below (X m))).mono fun _ _ ⟨h1, h2⟩ => by
    rw [acR, if_pos acc, decide_eq_true acc] at h1
    exact ⟨h1, Gm.ext_M m.2.size h2⟩) ?_
  simp only [Act.put, List.setIfInBounds_toArray, List.set_cons_zero, List.set_cons_succ]
  repeat (refine Gm.wpX_pure (by first | exact trivial | exact ⟨_, rfl, rfl, rfl⟩) rfl rfl rfl rfl rfl (fun K hK => ?_); go_big_quiet_op; refine hK _ ?_; clear hK K)
  refine Gm.wpX_end2 (by omega) (fun m u1 u2 h1 h2 => ?_)
  have Lm := X m
  have rNm := rNa.ext (L m)
  obtain ⟨wy, hwy⟩ := m
  clear L X q0 q1
  simp only [Act.put, List.setIfInBounds_toArray, List.set_cons_zero, List.set_cons_succ]
  go_wp2_with fail
  refine (message_no (id := []) _ (Rd.nil_ _) rNm rNm (fun h => by have := h.1; simp at this)).mono ?_
  rintro e w5 ⟨rfl, b5⟩
  go_wp2_with fail
  go_ret
  exact ⟨rfl, Lm.tr b5⟩
end Go.Proofs.YteihfboomegpkaaDoor
