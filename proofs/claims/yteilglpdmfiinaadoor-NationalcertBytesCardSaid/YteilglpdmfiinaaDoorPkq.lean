/- Parts Nc Na of the proof. -/
import Derived.Test.YteilglpdmfiinaaDoorPkn
import Derived.Test.YteilglpdmfiinaaDoorMl
import Derived.Deep.CutRange
namespace Go.Proofs.YteilglpdmfiinaaDoor
open Go.RowKit
set_option linter.unusedVariables false
set_option maxRecDepth 100000

theorem run_buildN8 (W : World) (s : ByteArray) (a b c d e f g : Int) : (Instr.build 46 [(0, .string s), (1, .int .i64 a), (2, .int .i64 b), (3, .int .i64 c), (4, .int .i64 d), (6, .int .i64 e), (7, .int .i64 f), (8, .int .i64 g)].toArray).run Tryd.prog W = .ok (.agg #[.string s, .int .i64 a, .int .i64 b, .int .i64 c, .int .i64 d, .int .i64 0, .int .i64 e, .int .i64 f, .int .i64 g, .int .i64 0, .int .i64 0]) W := run_build W _ _ _ (by kernel_rfl)
theorem xPN_key {ts : List Nd} (h : ¬ gdOk (valN ts (qP 133))) : xPN ts = none := if_neg (fun q => h ⟨q.1, q.2.1⟩)
theorem xPN_si {ts : List Nd} (h : ¬ dcK (valN ts qS) = 0) : xPN ts = none := if_neg (fun q => h q.2.2)
theorem xPN_ok {ts : List Nd} (h1 : gdOk (valN ts (qP 133))) (h3 : dcK (valN ts qS) = 0) : xPN ts = some (⟨valN ts (qP 19), numA (valN ts (qP 129)) 0 1, numA (valN ts (qP 130)) 0 4, numA (valN ts (qP 131)) 0 4, numA (valN ts (qP 132)) 0 4, num (valN ts (qP 133)), numA (valN ts (qP 134)) 0 3, numA (valN ts (qP 134)) 3 3, numA (valN ts (qP 134)) 6 3, dcE (valN ts qS), dcS (valN ts qS)⟩ : NC) := if_pos ⟨h1.1, h1.2, h3⟩
set_option maxHeartbeats 8000000 in
theorem ndecode_any {a : Value} {l : List UInt8} (w : World) (ha : Rd w a (bvs l)) (hl : l.length ≤ 4096) :
    Calls Tryd.prog 54 #[a] w (RetQ w (.tuple #[ncV (dtCN l), .int .i64 (dtKN l)])) := by
  have HD := Lib.hid (dtN_by wrtPN l)
  obtain ⟨wz, hwz, z0, zr⟩ := nzero_alloc w
  have HA := Lib.hid ha
  clear ha
  go_enter Tryd.func54, Tryd.ntmps54
  go_wp2_with fail
  rw [← hwz]
  clear hwz
  refine (parse_any wz (HA.out.ext z0) (by omega)).mono ?_
  rintro e w1 ⟨b1, hp⟩
  rw [show parP l = objsP 1 0 l from if_neg (by omega)] at hp
  have x1 := z0.tr b1
  have zr1 := zr.ext b1
  clear zr z0 b1
  rcases hp with ⟨hnone, A, n, c, k, hk, rfl⟩ | ⟨ts, cnt, A, n, c, hsome, rfl, hr⟩
  · have HC := HD.out.2.2.2 hnone
    have hb : (k != 0) = true := by simpa using hk
    clear hnone HD hk
    have TZ : NcAt (set11 w1 w.heap.size (.string ⟨#[]⟩) (.int .i64 0) (.int .i64 0) (.int .i64 0) (.int .i64 0) (.int .i64 0) (.int .i64 0) (.int .i64 0) (.int .i64 0) (.int .i64 0) (.int .i64 0)) w.heap.size zeroN := (zr1).setN zeroN
    obtain ⟨r0, r1, r2, r3, r4, r5, r6, r7, r8, r9, r10⟩ := (zr1).cells
    have rf0 := (zr1).frozen 0
    have rf1 := (zr1).frozen 1
    have rf2 := (zr1).frozen 2
    have rf3 := (zr1).frozen 3
    have rf4 := (zr1).frozen 4
    have rf5 := (zr1).frozen 5
    have rf6 := (zr1).frozen 6
    have rf7 := (zr1).frozen 7
    have rf8 := (zr1).frozen 8
    have rf9 := (zr1).frozen 9
    have rf10 := (zr1).frozen 10
    have rl := (zr1).lt
    go_wp2_with fail
    refine bodyPost_ret (v := .tuple #[ncV zeroN, .int .i64 1]) ?_ rfl ⟨by rw [HC.1, HC.2], ext_setN (x1) (Nat.le_refl _) zeroN⟩
    obtain ⟨q0, q1, q2, q3, q4, q5, q6, q7, q8, q9, q10⟩ := TZ.cells
    clear r0 rf0 r1 rf1 r2 rf2 r3 rf3 r4 rf4 r5 rf5 r6 rf6 r7 rf7 r8 rf8 r9 rf9 r10 rf10 rl
    simp [results, Tryd.results54, go_sem, ncV, q0, q1, q2, q3, q4, q5, q6, q7, q8, q9, q10]
  · have hsz := objsP_sz l.length l 8 0 1 ts cnt (Nat.le_refl _) hl (by omega) (by omega) hsome
    have HS := Lib.hid hsz
    have HR := Lib.hid hr
    have HO := Lib.hid hsome
    clear hr hsome hsz
    go_wp2_with fail
    refine (nvalue_any (d := 8) (ts := ts) 134 _ HR.out HS.out).mono ?_
    rintro e w2 ⟨A6, n6, c6, rfl, hn6, r6, b2⟩
    have x2 := x1.tr b2
    have zr2 := zr1.ext b2
    have HR2 := Lib.hid (HR.out.ext b2)
    have HD6 := Lib.hid r6
    clear x1 b2 zr1 HR hn6 r6
    go_wp2_with fail
    refine Gd.wp_region_X 23 (by kernel_rfl) (by kernel_rfl) ?_
    simp only [List.take_succ_cons, List.take_zero, List.drop_succ_cons, List.drop_zero]
    intro wq hw1
    have LL : ∀ m : Lt wq, Ext w2 m.1 := fun m => hw1.tr m.2
    repeat (refine Gd.wpX_pure (by first | exact trivial | exact ⟨_, rfl, rfl, rfl⟩) rfl rfl rfl rfl rfl (fun K hK => ?_); go_big_quiet_op; refine hK _ ?_; clear hK K)
    refine Gd.wpX_callF (by first | exact trivial | exact ⟨_, rfl, rfl, rfl⟩) (RB (valN ts (qP 19))) (stable_RB _) (fun _ => [.slice A n c, .int .i64 19]) rfl rfl rfl rfl rfl (by kernel_rfl) rfl (fun _ => rfl) (fun m f hf => (nvalue_any (d := 8) 19 m.1 (HR2.out.ext (LL m)) HS.out).mono fun _ _ h => h.rb) ?_
    simp only [Act.put, List.setIfInBounds_toArray, List.set_cons_zero, List.set_cons_succ]
    refine Gd.wpX_convL (by first | exact trivial | exact ⟨_, rfl, rfl, rfl⟩) (fun v _ => v = .string (bstr (valN ts (qP 19)))) (stable_eq _) (fun f => f 23) rfl rfl rfl rfl rfl (fun f => rfl) (fun m f hf => ⟨_, _, run_strV (hf 23 _ rfl rfl), Below.refl _ _, rfl⟩) ?_
    simp only [Act.put, List.setIfInBounds_toArray, List.set_cons_zero, List.set_cons_succ]
    repeat (refine Gd.wpX_pure (by first | exact trivial | exact ⟨_, rfl, rfl, rfl⟩) rfl rfl rfl rfl rfl (fun K hK => ?_); go_big_quiet_op; refine hK _ ?_; clear hK K)
    refine Gd.wpX_callF (by first | exact trivial | exact ⟨_, rfl, rfl, rfl⟩) (RB (valN ts (qP 129))) (stable_RB _) (fun _ => [.slice A n c, .int .i64 129]) rfl rfl rfl rfl rfl (by kernel_rfl) rfl (fun _ => rfl) (fun m f hf => (nvalue_any (d := 8) 129 m.1 (HR2.out.ext (LL m)) HS.out).mono fun _ _ h => h.rb) ?_
    simp only [Act.put, List.setIfInBounds_toArray, List.set_cons_zero, List.set_cons_succ]
    refine Gd.wpX_callUse (by first | exact trivial | exact ⟨_, rfl, rfl, rfl⟩) 26 (RB (valN ts (qP 129))) (.int .i64 (numA (valN ts (qP 129)) 0 1)) (fun u => [u, .int .i64 0, .int .i64 1]) rfl rfl rfl rfl rfl rfl rfl (fun u => rfl) (by kernel_rfl) (fun u => rfl) (fun m u hu => (nnumber_any 0 1 m.1 hu rfl rfl (by omega) (by omega) (by omega)).mono fun _ _ ⟨h1, h2⟩ => ⟨h1, h2 ▸ Below.refl _ _⟩) ?_
    simp only [Act.put, List.setIfInBounds_toArray, List.set_cons_zero, List.set_cons_succ]
    repeat (refine Gd.wpX_pure (by first | exact trivial | exact ⟨_, rfl, rfl, rfl⟩) rfl rfl rfl rfl rfl (fun K hK => ?_); go_big_quiet_op; refine hK _ ?_; clear hK K)
    refine Gd.wpX_callF (by first | exact trivial | exact ⟨_, rfl, rfl, rfl⟩) (RB (valN ts (qP 130))) (stable_RB _) (fun _ => [.slice A n c, .int .i64 130]) rfl rfl rfl rfl rfl (by kernel_rfl) rfl (fun _ => rfl) (fun m f hf => (nvalue_any (d := 8) 130 m.1 (HR2.out.ext (LL m)) HS.out).mono fun _ _ h => h.rb) ?_
    simp only [Act.put, List.setIfInBounds_toArray, List.set_cons_zero, List.set_cons_succ]
    refine Gd.wpX_callUse (by first | exact trivial | exact ⟨_, rfl, rfl, rfl⟩) 29 (RB (valN ts (qP 130))) (.int .i64 (numA (valN ts (qP 130)) 0 4)) (fun u => [u, .int .i64 0, .int .i64 4]) rfl rfl rfl rfl rfl rfl rfl (fun u => rfl) (by kernel_rfl) (fun u => rfl) (fun m u hu => (nnumber_any 0 4 m.1 hu rfl rfl (by omega) (by omega) (by omega)).mono fun _ _ ⟨h1, h2⟩ => ⟨h1, h2 ▸ Below.refl _ _⟩) ?_
    simp only [Act.put, List.setIfInBounds_toArray, List.set_cons_zero, List.set_cons_succ]
    repeat (refine Gd.wpX_pure (by first | exact trivial | exact ⟨_, rfl, rfl, rfl⟩) rfl rfl rfl rfl rfl (fun K hK => ?_); go_big_quiet_op; refine hK _ ?_; clear hK K)
    refine Gd.wpX_callF (by first | exact trivial | exact ⟨_, rfl, rfl, rfl⟩) (RB (valN ts (qP 131))) (stable_RB _) (fun _ => [.slice A n c, .int .i64 131]) rfl rfl rfl rfl rfl (by kernel_rfl) rfl (fun _ => rfl) (fun m f hf => (nvalue_any (d := 8) 131 m.1 (HR2.out.ext (LL m)) HS.out).mono fun _ _ h => h.rb) ?_
    simp only [Act.put, List.setIfInBounds_toArray, List.set_cons_zero, List.set_cons_succ]
    refine Gd.wpX_callUse (by first | exact trivial | exact ⟨_, rfl, rfl, rfl⟩) 32 (RB (valN ts (qP 131))) (.int .i64 (numA (valN ts (qP 131)) 0 4)) (fun u => [u, .int .i64 0, .int .i64 4]) rfl rfl rfl rfl rfl rfl rfl (fun u => rfl) (by kernel_rfl) (fun u => rfl) (fun m u hu => (nnumber_any 0 4 m.1 hu rfl rfl (by omega) (by omega) (by omega)).mono fun _ _ ⟨h1, h2⟩ => ⟨h1, h2 ▸ Below.refl _ _⟩) ?_
    simp only [Act.put, List.setIfInBounds_toArray, List.set_cons_zero, List.set_cons_succ]
    repeat (refine Gd.wpX_pure (by first | exact trivial | exact ⟨_, rfl, rfl, rfl⟩) rfl rfl rfl rfl rfl (fun K hK => ?_); go_big_quiet_op; refine hK _ ?_; clear hK K)
    refine Gd.wpX_callF (by first | exact trivial | exact ⟨_, rfl, rfl, rfl⟩) (RB (valN ts (qP 132))) (stable_RB _) (fun _ => [.slice A n c, .int .i64 132]) rfl rfl rfl rfl rfl (by kernel_rfl) rfl (fun _ => rfl) (fun m f hf => (nvalue_any (d := 8) 132 m.1 (HR2.out.ext (LL m)) HS.out).mono fun _ _ h => h.rb) ?_
    simp only [Act.put, List.setIfInBounds_toArray, List.set_cons_zero, List.set_cons_succ]
    refine Gd.wpX_callUse (by first | exact trivial | exact ⟨_, rfl, rfl, rfl⟩) 35 (RB (valN ts (qP 132))) (.int .i64 (numA (valN ts (qP 132)) 0 4)) (fun u => [u, .int .i64 0, .int .i64 4]) rfl rfl rfl rfl rfl rfl rfl (fun u => rfl) (by kernel_rfl) (fun u => rfl) (fun m u hu => (nnumber_any 0 4 m.1 hu rfl rfl (by omega) (by omega) (by omega)).mono fun _ _ ⟨h1, h2⟩ => ⟨h1, h2 ▸ Below.refl _ _⟩) ?_
    simp only [Act.put, List.setIfInBounds_toArray, List.set_cons_zero, List.set_cons_succ]
    repeat (refine Gd.wpX_pure (by first | exact trivial | exact ⟨_, rfl, rfl, rfl⟩) rfl rfl rfl rfl rfl (fun K hK => ?_); go_big_quiet_op; refine hK _ ?_; clear hK K)
    refine Gd.wpX_callFn (by first | exact trivial | exact ⟨_, rfl, rfl, rfl⟩) (.int .i64 (numA (valN ts (qP 134)) 0 3)) (args := [.slice A6 n6 c6, .int .i64 0, .int .i64 3]) rfl rfl rfl rfl (by kernel_rfl) rfl rfl (fun m => (nnumber_any 0 3 m.1 (HD6.out.ext (LL m)) rfl rfl (by omega) (by omega) (by omega)).mono fun _ _ ⟨h1, h2⟩ => ⟨h1, h2 ▸ Below.refl _ _⟩) ?_
    simp only [Act.put, List.setIfInBounds_toArray, List.set_cons_zero, List.set_cons_succ]
    repeat (refine Gd.wpX_pure (by first | exact trivial | exact ⟨_, rfl, rfl, rfl⟩) rfl rfl rfl rfl rfl (fun K hK => ?_); go_big_quiet_op; refine hK _ ?_; clear hK K)
    refine Gd.wpX_callFn (by first | exact trivial | exact ⟨_, rfl, rfl, rfl⟩) (.int .i64 (numA (valN ts (qP 134)) 3 3)) (args := [.slice A6 n6 c6, .int .i64 3, .int .i64 3]) rfl rfl rfl rfl (by kernel_rfl) rfl rfl (fun m => (nnumber_any 3 3 m.1 (HD6.out.ext (LL m)) rfl rfl (by omega) (by omega) (by omega)).mono fun _ _ ⟨h1, h2⟩ => ⟨h1, h2 ▸ Below.refl _ _⟩) ?_
    simp only [Act.put, List.setIfInBounds_toArray, List.set_cons_zero, List.set_cons_succ]
    repeat (refine Gd.wpX_pure (by first | exact trivial | exact ⟨_, rfl, rfl, rfl⟩) rfl rfl rfl rfl rfl (fun K hK => ?_); go_big_quiet_op; refine hK _ ?_; clear hK K)
    refine Gd.wpX_callFn (by first | exact trivial | exact ⟨_, rfl, rfl, rfl⟩) (.int .i64 (numA (valN ts (qP 134)) 6 3)) (args := [.slice A6 n6 c6, .int .i64 6, .int .i64 3]) rfl rfl rfl rfl (by kernel_rfl) rfl rfl (fun m => (nnumber_any 6 3 m.1 (HD6.out.ext (LL m)) rfl rfl (by omega) (by omega) (by omega)).mono fun _ _ ⟨h1, h2⟩ => ⟨h1, h2 ▸ Below.refl _ _⟩) ?_
    simp only [Act.put, List.setIfInBounds_toArray, List.set_cons_zero, List.set_cons_succ]
    repeat (refine Gd.wpX_pure (by first | exact trivial | exact ⟨_, rfl, rfl, rfl⟩) rfl rfl rfl rfl rfl (fun K hK => ?_); go_big_quiet_op; refine hK _ ?_; clear hK K)
    refine Gd.wpX_buildL (by first | exact trivial | exact ⟨_, rfl, rfl, rfl⟩) (fun v _ => v = ncV (⟨valN ts (qP 19), numA (valN ts (qP 129)) 0 1, numA (valN ts (qP 130)) 0 4, numA (valN ts (qP 131)) 0 4, numA (valN ts (qP 132)) 0 4, 0, numA (valN ts (qP 134)) 0 3, numA (valN ts (qP 134)) 3 3, numA (valN ts (qP 134)) 6 3, 0, 0⟩ : NC)) (stable_eq _) (fun f => [(0, f 24), (1, .int .i64 (numA (valN ts (qP 129)) 0 1)), (2, .int .i64 (numA (valN ts (qP 130)) 0 4)), (3, .int .i64 (numA (valN ts (qP 131)) 0 4)), (4, .int .i64 (numA (valN ts (qP 132)) 0 4)), (6, .int .i64 (numA (valN ts (qP 134)) 0 3)), (7, .int .i64 (numA (valN ts (qP 134)) 3 3)), (8, .int .i64 (numA (valN ts (qP 134)) 6 3))]) rfl rfl rfl rfl rfl (fun f => rfl) (fun m f hf => ⟨_, _, by rw [hf 24 _ rfl rfl]; exact run_buildN8 m.1 _ _ _ _ _ _ _ _, Below.refl _ _, rfl⟩) ?_
    simp only [Act.put, List.setIfInBounds_toArray, List.set_cons_zero, List.set_cons_succ]
    refine Gd.wpX_allocNc (by first | exact trivial | exact ⟨_, rfl, rfl, rfl⟩) rfl rfl rfl rfl ?_
    simp only [Act.put, List.setIfInBounds_toArray, List.set_cons_zero, List.set_cons_succ]
    refine Gd.wpX_endL (fun m f hf => ?_)
    have e43 := hf 43 _ rfl
    obtain ⟨cb, e7, hcb0, TZ0⟩ := hf 7 _ rfl
    simp only [fillH]
    simp only [Act.put, List.setIfInBounds_toArray, List.set_cons_zero, List.set_cons_succ]
    rw [e43, e7]
    have Lm := LL m
    have hw15 := hw1.size
    obtain ⟨wm, hwm⟩ := m
    have Lm : Ext w2 wm := Lm
    have TZ0 : NcAt wm cb zeroN := TZ0
    have hcb : w2.heap.size ≤ cb := Nat.le_trans hw15 hcb0
    generalize f 23 = f23 at *
    generalize f 24 = f24 at *
    generalize f 26 = f26 at *
    generalize f 29 = f29 at *
    generalize f 32 = f32 at *
    generalize f 35 = f35 at *
    clear LL hf e43 e7 HD6 hw15 hcb0
    show wpList _ _ _ _ _ _
    generalize hC0 : (⟨valN ts (qP 19), numA (valN ts (qP 129)) 0 1, numA (valN ts (qP 130)) 0 4, numA (valN ts (qP 131)) 0 4, numA (valN ts (qP 132)) 0 4, 0, numA (valN ts (qP 134)) 0 3, numA (valN ts (qP 134)) 3 3, numA (valN ts (qP 134)) 6 3, 0, 0⟩ : NC) = c0
    have HC0 := Lib.hid hC0.symm
    clear hC0
    have hne : w.heap.size ≠ cb := by have := zr2.lt; omega
    have hcw : w.heap.size ≤ cb := Nat.le_trans x2.size hcb
    obtain ⟨wn, hwn, ec1, TC1⟩ : ∃ wn, wn = (((((((((((wm.setCell ⟨cb, 0, none⟩ (.string (bstr c0.st))).setCell ⟨cb, 1, none⟩ (.int .i64 c0.kind)).setCell ⟨cb, 2, none⟩ (.int .i64 c0.num)).setCell ⟨cb, 3, none⟩ (.int .i64 c0.iss)).setCell ⟨cb, 4, none⟩ (.int .i64 c0.own)).setCell ⟨cb, 5, none⟩ (.int .i64 c0.key)).setCell ⟨cb, 6, none⟩ (.int .i64 c0.fr)).setCell ⟨cb, 7, none⟩ (.int .i64 c0.un)).setCell ⟨cb, 8, none⟩ (.int .i64 c0.to)).setCell ⟨cb, 9, none⟩ (.int .i64 c0.e)).setCell ⟨cb, 10, none⟩ (.int .i64 c0.s)) ∧ Ext w2 wn ∧ NcAt wn cb c0 := ⟨_, rfl, ext_setN Lm hcb c0, TZ0.setN c0⟩
    obtain ⟨p0, p1, p2, p3, p4, p5, p6, p7, p8, p9, p10⟩ := (TZ0).cells
    have pf0 := (TZ0).frozen 0
    have pf1 := (TZ0).frozen 1
    have pf2 := (TZ0).frozen 2
    have pf3 := (TZ0).frozen 3
    have pf4 := (TZ0).frozen 4
    have pf5 := (TZ0).frozen 5
    have pf6 := (TZ0).frozen 6
    have pf7 := (TZ0).frozen 7
    have pf8 := (TZ0).frozen 8
    have pf9 := (TZ0).frozen 9
    have pf10 := (TZ0).frozen 10
    have pl := (TZ0).lt
    unfold ncV
    go_wp2_with fail
    rw [← hwn]
    clear hwn Lm
    clear p0 pf0 p1 pf1 p2 pf2 p3 pf3 p4 pf4 p5 pf5 p6 pf6 p7 pf7 p8 pf8 p9 pf9 p10 pf10 pl
    clear TZ0
    refine (nvalue_any (d := 8) (ts := ts) 133 _ (HR2.out.ext ec1) HS.out).mono ?_
    rintro e w5 ⟨A5, n5, c5, rfl, hn5, r5, b5⟩
    have y5 := ec1.tr b5
    have TC5 := TC1.ext b5
    clear TC1 hn5 b5 ec1
    go_wp2_with fail
    refine (gdecode_any _ r5).mono ?_
    rintro e w6 ⟨rfl, b6⟩
    have y6 := y5.tr b6
    have TC6 := TC5.ext b6
    clear y5 TC5 r5 b6
    obtain ⟨we, hwe, ye, TCe⟩ : ∃ we, we = w6.setCell ⟨cb, 5, none⟩ (.int .i64 (gdV (valN ts (qP 133)))) ∧ Ext w2 we ∧ NcAt we cb ⟨c0.st, c0.kind, c0.num, c0.iss, c0.own, gdV (valN ts (qP 133)), c0.fr, c0.un, c0.to, c0.e, c0.s⟩ :=
      ⟨_, rfl, ext_set y6 hcb, TC6.setKey _⟩
    obtain ⟨p0, p1, p2, p3, p4, p5, p6, p7, p8, p9, p10⟩ := (TC6).cells
    have pf0 := (TC6).frozen 0
    have pf1 := (TC6).frozen 1
    have pf2 := (TC6).frozen 2
    have pf3 := (TC6).frozen 3
    have pf4 := (TC6).frozen 4
    have pf5 := (TC6).frozen 5
    have pf6 := (TC6).frozen 6
    have pf7 := (TC6).frozen 7
    have pf8 := (TC6).frozen 8
    have pf9 := (TC6).frozen 9
    have pf10 := (TC6).frozen 10
    have pl := (TC6).lt
    by_cases hgd : gdOk (valN ts (qP 133))
    case neg =>
      have HC := HD.out.2.2.1 ts cnt HO.out (xPN_key hgd)
      have hb : (gdK (valN ts (qP 133)) != 0) = true := by unfold gdK; rw [if_neg hgd]; split <;> rfl
      clear hgd HD hwe ye TCe
      have zr6 := zr2.ext y6
      have zrq := zr6.other (b := cb) (i := 5) (v := .int .i64 (gdV (valN ts (qP 133)))) hne
      have TZ : NcAt (set11 (w6.setCell ⟨cb, 5, none⟩ (.int .i64 (gdV (valN ts (qP 133))))) w.heap.size (.string ⟨#[]⟩) (.int .i64 0) (.int .i64 0) (.int .i64 0) (.int .i64 0) (.int .i64 0) (.int .i64 0) (.int .i64 0) (.int .i64 0) (.int .i64 0) (.int .i64 0)) w.heap.size zeroN := (zrq).setN zeroN
      obtain ⟨r0, r1, r2, r3, r4, r5, r6, r7, r8, r9, r10⟩ := (zr6).cells
      have rf0 := (zr6).frozen 0
      have rf1 := (zr6).frozen 1
      have rf2 := (zr6).frozen 2
      have rf3 := (zr6).frozen 3
      have rf4 := (zr6).frozen 4
      have rf5 := (zr6).frozen 5
      have rf6 := (zr6).frozen 6
      have rf7 := (zr6).frozen 7
      have rf8 := (zr6).frozen 8
      have rf9 := (zr6).frozen 9
      have rf10 := (zr6).frozen 10
      have rl := (zr6).lt
      go_wp2_with fail
      refine bodyPost_ret (v := .tuple #[ncV zeroN, .int .i64 1]) ?_ rfl ⟨by rw [HC.1, HC.2], ext_setN (ext_set (x2.tr y6) hcw) (Nat.le_refl _) zeroN⟩
      obtain ⟨q0, q1, q2, q3, q4, q5, q6, q7, q8, q9, q10⟩ := TZ.cells
      clear r0 rf0 r1 rf1 r2 rf2 r3 rf3 r4 rf4 r5 rf5 r6 rf6 r7 rf7 r8 rf8 r9 rf9 r10 rf10 rl
      simp [results, Tryd.results54, go_sem, ncV, q0, q1, q2, q3, q4, q5, q6, q7, q8, q9, q10]
    case pos =>
      have HG := Lib.hid hgd
      rw [show gdK (valN ts (qP 133)) = 0 from if_pos hgd]
      have hgv : gdV (valN ts (qP 133)) = num (valN ts (qP 133)) := if_pos hgd
      rw [hgv] at hwe TCe ⊢
      have HZe := Lib.hid (show we.heap.size = w6.heap.size by rw [hwe]; simp)
      have e7 : Ext we (we.alloc (.cells #[.int .i64 48, .int .i64 3] 3)) := (Below.refl _ _).alloc (Nat.le_refl _) _
      clear hgd hgv
      go_wp2_with fail
      rw [← hwe, ← HZe.out]
      clear hwe HZe
      clear p0 pf0 p1 pf1 p2 pf2 p3 pf3 p4 pf4 p5 pf5 p6 pf6 p7 pf7 p8 pf8 p9 pf9 p10 pf10 pl
      clear TC6 y6
      refine (find_any (d := 8) (ts := ts) (path := qS) _ (HR2.out.ext (ye.tr e7)) HS.out (rdi2 we 48 3)).mono ?_
      rintro e w7 ⟨b7, v, ⟨t8, A8, n8, c8, A82, n82, c82, rfl, hS⟩, rfl⟩
      have y7 := ye.tr (e7.tr b7)
      have TC7 := TCe.ext (e7.tr b7)
      clear ye e7 b7 TCe
      obtain ⟨w8, hw8, e8, T8⟩ := nd_alloc w7 (.int .i64 t8) (.slice A8 n8 c8) (.slice A82 n82 c82)
      have hw8' := hw8.symm
      clear hw8
      have HSg := Lib.hid (hS.ext e8)
      have y8 := y7.tr e8
      have TC8 := TC7.ext e8
      clear hS e8 y7 TC7
      obtain ⟨_, k1, _, _, _, _⟩ := T8.cells
      have kl := T8.lt
      go_wp2_with fail
      refine (decode_any _ HSg.out).mono ?_
      rintro e w9 ⟨rfl, b9⟩
      have y9 := y8.tr b9
      have TC9 := TC8.ext b9
      clear y8 TC8 b9 k1 kl T8 hw8' HSg
      unfold sgV
      obtain ⟨wg, hwg, yg, TCg⟩ : ∃ wg, wg = (w9.setCell ⟨cb, 9, none⟩ (.int .i64 (dcE (valN ts qS)))).setCell ⟨cb, 10, none⟩ (.int .i64 (dcS (valN ts qS))) ∧ Ext w2 wg ∧ NcAt wg cb ⟨c0.st, c0.kind, c0.num, c0.iss, c0.own, num (valN ts (qP 133)), c0.fr, c0.un, c0.to, dcE (valN ts qS), dcS (valN ts qS)⟩ :=
        ⟨_, rfl, ext_set (ext_set y9 hcb) hcb, TC9.setSig _ _⟩
      obtain ⟨p0, p1, p2, p3, p4, p5, p6, p7, p8, p9, p10⟩ := (TC9).cells
      have pf0 := (TC9).frozen 0
      have pf1 := (TC9).frozen 1
      have pf2 := (TC9).frozen 2
      have pf3 := (TC9).frozen 3
      have pf4 := (TC9).frozen 4
      have pf5 := (TC9).frozen 5
      have pf6 := (TC9).frozen 6
      have pf7 := (TC9).frozen 7
      have pf8 := (TC9).frozen 8
      have pf9 := (TC9).frozen 9
      have pf10 := (TC9).frozen 10
      have pl := (TC9).lt
      by_cases hds : dcK (valN ts qS) = 0
      case neg =>
        have HC := HD.out.2.2.1 ts cnt HO.out (xPN_si hds)
        have hb : (dcK (valN ts qS) != 0) = true := by simpa using hds
        clear HD hds hwg yg TCg
        have zr9 := zr2.ext y9
        have zrq := (zr9.other (b := cb) (i := 9) (v := .int .i64 (dcE (valN ts qS))) hne).other (b := cb) (i := 10) (v := .int .i64 (dcS (valN ts qS))) hne
        have TZ : NcAt (set11 ((w9.setCell ⟨cb, 9, none⟩ (.int .i64 (dcE (valN ts qS)))).setCell ⟨cb, 10, none⟩ (.int .i64 (dcS (valN ts qS)))) w.heap.size (.string ⟨#[]⟩) (.int .i64 0) (.int .i64 0) (.int .i64 0) (.int .i64 0) (.int .i64 0) (.int .i64 0) (.int .i64 0) (.int .i64 0) (.int .i64 0) (.int .i64 0)) w.heap.size zeroN := (zrq).setN zeroN
        obtain ⟨r0, r1, r2, r3, r4, r5, r6, r7, r8, r9, r10⟩ := (zr9).cells
        have rf0 := (zr9).frozen 0
        have rf1 := (zr9).frozen 1
        have rf2 := (zr9).frozen 2
        have rf3 := (zr9).frozen 3
        have rf4 := (zr9).frozen 4
        have rf5 := (zr9).frozen 5
        have rf6 := (zr9).frozen 6
        have rf7 := (zr9).frozen 7
        have rf8 := (zr9).frozen 8
        have rf9 := (zr9).frozen 9
        have rf10 := (zr9).frozen 10
        have rl := (zr9).lt
        go_wp2_with fail
        refine bodyPost_ret (v := .tuple #[ncV zeroN, .int .i64 1]) ?_ rfl ⟨by rw [HC.1, HC.2], ext_setN (ext_set (ext_set (x2.tr y9) hcw) hcw) (Nat.le_refl _) zeroN⟩
        obtain ⟨q0, q1, q2, q3, q4, q5, q6, q7, q8, q9, q10⟩ := TZ.cells
        clear r0 rf0 r1 rf1 r2 rf2 r3 rf3 r4 rf4 r5 rf5 r6 rf6 r7 rf7 r8 rf8 r9 rf9 r10 rf10 rl
        simp [results, Tryd.results54, go_sem, ncV, q0, q1, q2, q3, q4, q5, q6, q7, q8, q9, q10]
      case pos =>
        have hx := xPN_ok HG.out hds
        have HM := Lib.hid (show smN ⟨c0.st, c0.kind, c0.num, c0.iss, c0.own, num (valN ts (qP 133)), c0.fr, c0.un, c0.to, dcE (valN ts qS), dcS (valN ts qS)⟩ from by rw [HC0.out]; exact valN_len (qP 19) 8 ts HS.out)
        have HX : Hid (xPN ts = some ⟨c0.st, c0.kind, c0.num, c0.iss, c0.own, num (valN ts (qP 133)), c0.fr, c0.un, c0.to, dcE (valN ts qS), dcS (valN ts qS)⟩) := by rw [HC0.out]; exact hx
        rw [hds]
        clear hx hds
        go_wp2_with fail
        rw [← hwg]
        clear hwg
        clear p0 pf0 p1 pf1 p2 pf2 p3 pf3 p4 pf4 p5 pf5 p6 pf6 p7 pf7 p8 pf8 p9 pf9 p10 pf10 pl
        clear TC9 y9
        refine (nencode_any _ wg HM.out).mono ?_
        obtain ⟨c, hc⟩ : ∃ c : NC, c = ⟨c0.st, c0.kind, c0.num, c0.iss, c0.own, num (valN ts (qP 133)), c0.fr, c0.un, c0.to, dcE (valN ts qS), dcS (valN ts qS)⟩ := ⟨_, rfl⟩
        rw [← hc] at HX TCg ⊢
        clear hc HM HC0
        rintro e w13 ⟨A13, n13, c13, rfl, hn13, r13, b13⟩
        have y13 := yg.tr b13
        have TC13 := TCg.ext b13
        clear yg b13 TCg
        by_cases hec : ecKN c = 0
        case neg =>
          have HC := HD.out.2.1 ts cnt c HO.out HX.out (fun q => hec q.1)
          have hb : (ecKN c != 0) = true := by simpa using hec
          clear HD hec
          have zr13 := zr2.ext y13
          have TZ : NcAt (set11 w13 w.heap.size (.string ⟨#[]⟩) (.int .i64 0) (.int .i64 0) (.int .i64 0) (.int .i64 0) (.int .i64 0) (.int .i64 0) (.int .i64 0) (.int .i64 0) (.int .i64 0) (.int .i64 0)) w.heap.size zeroN := (zr13).setN zeroN
          obtain ⟨r0, r1, r2, r3, r4, r5, r6, r7, r8, r9, r10⟩ := (zr13).cells
          have rf0 := (zr13).frozen 0
          have rf1 := (zr13).frozen 1
          have rf2 := (zr13).frozen 2
          have rf3 := (zr13).frozen 3
          have rf4 := (zr13).frozen 4
          have rf5 := (zr13).frozen 5
          have rf6 := (zr13).frozen 6
          have rf7 := (zr13).frozen 7
          have rf8 := (zr13).frozen 8
          have rf9 := (zr13).frozen 9
          have rf10 := (zr13).frozen 10
          have rl := (zr13).lt
          go_wp2_with fail
          refine bodyPost_ret (v := .tuple #[ncV zeroN, .int .i64 1]) ?_ rfl ⟨by rw [HC.1, HC.2], ext_setN (x2.tr y13) (Nat.le_refl _) zeroN⟩
          obtain ⟨q0, q1, q2, q3, q4, q5, q6, q7, q8, q9, q10⟩ := TZ.cells
          clear r0 rf0 r1 rf1 r2 rf2 r3 rf3 r4 rf4 r5 rf5 r6 rf6 r7 rf7 r8 rf8 r9 rf9 r10 rf10 rl
          simp [results, Tryd.results54, go_sem, ncV, q0, q1, q2, q3, q4, q5, q6, q7, q8, q9, q10]
        case pos =>
          have HE := Lib.hid hec
          rw [hec]
          clear hec
          go_wp2_with fail
          refine (osame_any _ r13 (HA.out.ext (x2.tr y13))).mono ?_
          rintro e w14 ⟨rfl, b14⟩
          have y14 := y13.tr b14
          have TC14 := TC13.ext b14
          clear y13 b14 TC13 r13 hn13
          have zr14 := zr2.ext y14
          by_cases hsm : ecBN c = l
          case neg =>
            rw [decide_eq_false hsm]
            have HC := HD.out.2.1 ts cnt c HO.out HX.out (fun q => hsm q.2)
            clear HD hsm
            have TZ : NcAt (set11 w14 w.heap.size (.string ⟨#[]⟩) (.int .i64 0) (.int .i64 0) (.int .i64 0) (.int .i64 0) (.int .i64 0) (.int .i64 0) (.int .i64 0) (.int .i64 0) (.int .i64 0) (.int .i64 0)) w.heap.size zeroN := (zr14).setN zeroN
            obtain ⟨r0, r1, r2, r3, r4, r5, r6, r7, r8, r9, r10⟩ := (zr14).cells
            have rf0 := (zr14).frozen 0
            have rf1 := (zr14).frozen 1
            have rf2 := (zr14).frozen 2
            have rf3 := (zr14).frozen 3
            have rf4 := (zr14).frozen 4
            have rf5 := (zr14).frozen 5
            have rf6 := (zr14).frozen 6
            have rf7 := (zr14).frozen 7
            have rf8 := (zr14).frozen 8
            have rf9 := (zr14).frozen 9
            have rf10 := (zr14).frozen 10
            have rl := (zr14).lt
            go_wp2_with fail
            refine bodyPost_ret (v := .tuple #[ncV zeroN, .int .i64 1]) ?_ rfl ⟨by rw [HC.1, HC.2], ext_setN (x2.tr y14) (Nat.le_refl _) zeroN⟩
            obtain ⟨q0, q1, q2, q3, q4, q5, q6, q7, q8, q9, q10⟩ := TZ.cells
            clear r0 rf0 r1 rf1 r2 rf2 r3 rf3 r4 rf4 r5 rf5 r6 rf6 r7 rf7 r8 rf8 r9 rf9 r10 rf10 rl
            simp [results, Tryd.results54, go_sem, ncV, q0, q1, q2, q3, q4, q5, q6, q7, q8, q9, q10]
          case pos =>
            rw [decide_eq_true hsm]
            have HC := HD.out.1 ts cnt c HO.out HX.out HE.out hsm
            clear HD hsm
            have TZ : NcAt (set11 w14 w.heap.size (.string (bstr c.st)) (.int .i64 c.kind) (.int .i64 c.num) (.int .i64 c.iss) (.int .i64 c.own) (.int .i64 c.key) (.int .i64 c.fr) (.int .i64 c.un) (.int .i64 c.to) (.int .i64 c.e) (.int .i64 c.s)) w.heap.size c := zr14.setN c
            obtain ⟨p0, p1, p2, p3, p4, p5, p6, p7, p8, p9, p10⟩ := (TC14).cells
            have pf0 := (TC14).frozen 0
            have pf1 := (TC14).frozen 1
            have pf2 := (TC14).frozen 2
            have pf3 := (TC14).frozen 3
            have pf4 := (TC14).frozen 4
            have pf5 := (TC14).frozen 5
            have pf6 := (TC14).frozen 6
            have pf7 := (TC14).frozen 7
            have pf8 := (TC14).frozen 8
            have pf9 := (TC14).frozen 9
            have pf10 := (TC14).frozen 10
            have pl := (TC14).lt
            obtain ⟨r0, r1, r2, r3, r4, r5, r6, r7, r8, r9, r10⟩ := (zr14).cells
            have rf0 := (zr14).frozen 0
            have rf1 := (zr14).frozen 1
            have rf2 := (zr14).frozen 2
            have rf3 := (zr14).frozen 3
            have rf4 := (zr14).frozen 4
            have rf5 := (zr14).frozen 5
            have rf6 := (zr14).frozen 6
            have rf7 := (zr14).frozen 7
            have rf8 := (zr14).frozen 8
            have rf9 := (zr14).frozen 9
            have rf10 := (zr14).frozen 10
            have rl := (zr14).lt
            go_wp2_with fail
            refine bodyPost_ret (v := .tuple #[ncV c, .int .i64 0]) ?_ rfl ⟨by rw [HC.1, HC.2], ext_setN (x2.tr y14) (Nat.le_refl _) c⟩
            obtain ⟨q0, q1, q2, q3, q4, q5, q6, q7, q8, q9, q10⟩ := TZ.cells
            clear r0 rf0 r1 rf1 r2 rf2 r3 rf3 r4 rf4 r5 rf5 r6 rf6 r7 rf7 r8 rf8 r9 rf9 r10 rf10 rl
            clear p0 pf0 p1 pf1 p2 pf2 p3 pf3 p4 pf4 p5 pf5 p6 pf6 p7 pf7 p8 pf8 p9 pf9 p10 pf10 pl
            simp [results, Tryd.results54, go_sem, ncV, q0, q1, q2, q3, q4, q5, q6, q7, q8, q9, q10]
end Go.Proofs.YteilglpdmfiinaaDoor

namespace Go.Proofs.YteilglpdmfiinaaDoor
open Go.RowKit
set_option linter.unusedVariables false
set_option maxRecDepth 100000

def utoN : List UInt8 := [85, 84, 79]
def awN (p : Int) : NC := ⟨utoN, 1, 1, 1, 1, p, 10, 20, 30, 0, 0⟩
theorem state_uto : stateP utoN := by decide
theorem ck_awN {p : Int} (h : isElem p = true) : ckN (awN p) = 0 :=
  ckN_yes state_uto (by show ¬ ((1 : Int) < 1 ∨ 4 < (1 : Int)); omega) (by show numsP 1 1 1 1; decide) h (by show (0 : Int) ≤ 10 ∧ (10 : Int) ≤ 20 ∧ (20 : Int) ≤ 30 ∧ (30 : Int) ≤ 73048; omega)
theorem onN_upd (c : NC) (e s day : Int) : onN (updN c e s) day = onN c day := rfl
theorem rtN_root {c : NC} (e s : Int) (h : c.kind = 1) : rtN (updN c e s) = vfN c.key (updN c e s) := if_pos h
theorem on_early {c : NC} {day : Int} (h : ckN c = 0) (hd : day < c.fr) : onN c day = 64 := by unfold onN; rw [if_pos h, if_pos hd]
theorem on_late {c : NC} {day : Int} (h : ckN c = 0) (h0 : ¬ day < c.fr) (hd : c.to < day) : onN c day = 63 := by unfold onN; rw [if_pos h, if_neg h0, if_pos hd]
theorem on_good {c : NC} {day : Int} (h : ckN c = 0) (h0 : ¬ day < c.fr) (hd : ¬ c.to < day) : onN c day = 0 := by unfold onN; rw [if_pos h, if_neg h0, if_neg hd]
theorem aw_facts {k p : Int} (hk : inB 1 1073741789 k = true) (hp : p = pw 4 k) (he : isElem p = true) : rtN (isCN k (awN p)) = true ∧ onN (isCN k (awN p)) 30 = 0 ∧ onN (isCN k (awN p)) 31 = 63 ∧ onN (isCN k (awN p)) 9 = 64 := by
  have hck := ck_awN he
  have h := vfN_issue hk hck
  rw [isCN_in hk hck] at h ⊢
  generalize sigE k (bodyNB (awN p)) = e at *
  generalize sigS k (bodyNB (awN p)) = s at *
  rw [onN_upd, onN_upd, onN_upd, rtN_root e s (show (awN p).kind = 1 from rfl), show (awN p).key = p from rfl]
  rw [← hp] at h
  exact ⟨h, on_good hck (by show ¬ (30 : Int) < 10; omega) (by show ¬ (30 : Int) < 30; omega), on_late hck (by show ¬ (31 : Int) < 10; omega) (by show (30 : Int) < 31; omega), on_early hck (by show (9 : Int) < 10; omega)⟩
set_option maxHeartbeats 4000000 in
theorem awake29_core (k p : Int) (hk : inB 1 1073741789 k = true) (hp : p = pw 4 k) (he : isElem p = true)
    (F : ∀ w : World, Calls Tryd.prog 52 #[.int .i64 12] w fun e w' => e = .returned (.tuple #[.int .i64 k, .int .i64 p]) ∧ w = w')
    (w : World) (E : KTab w 1) : Calls Tryd.prog 21 #[] w (RetQ w (.bool true)) := by
  have hck := ck_awN he
  have hgi : ∀ W : World, Ext w W → Calls Tryd.prog 53 #[.int .i64 k, ncV (awN p)] W (RetQ W (.tuple #[ncV (isCN k (awN p)), .int .i64 0])) := fun W x => by
    have h := nissue_any k (awN p) W (sm_ofN hck) (E.below x)
    rwa [isKN_in hk hck] at h
  have hv := validN_issue hk hck
  obtain ⟨h1, o1, o2, o3⟩ := aw_facts hk hp he
  generalize isCN k (awN p) = c1 at *
  have hd := dtN_of hv
  have hek := ecKN_valid.2 hv
  have hsm := sm_ofN hv.1
  have hln := ecBN_len c1
  have HI := Lib.hid hgi
  have HD := Lib.hid hd
  have H1 := Lib.hid h1
  have O1 := Lib.hid o1
  have O2 := Lib.hid o2
  have O3 := Lib.hid o3
  have HEK := Lib.hid hek
  clear hgi hd h1 hv hp he hck hk o1 o2 o3 hek
  go_enter Tryd.func21, Tryd.ntmps21
  go_wp2_with fail
  refine (F w).mono ?_
  rintro e w' ⟨rfl, rfl⟩
  clear F
  go_wp2_with fail
  refine (HI.out _ (Below.refl _ _)).mono ?_
  rintro e w1 ⟨rfl, b1⟩
  obtain ⟨wa1, hwb1, ea1, TA1⟩ := nzero_alloc w1
  have hwa1 := hwb1.symm
  clear hwb1
  obtain ⟨wc1, hwc1, ec1, TC1⟩ : ∃ wc, wc = (((((((((((wa1.setCell ⟨w1.heap.size, 0, none⟩ (.string (bstr c1.st))).setCell ⟨w1.heap.size, 1, none⟩ (.int .i64 c1.kind)).setCell ⟨w1.heap.size, 2, none⟩ (.int .i64 c1.num)).setCell ⟨w1.heap.size, 3, none⟩ (.int .i64 c1.iss)).setCell ⟨w1.heap.size, 4, none⟩ (.int .i64 c1.own)).setCell ⟨w1.heap.size, 5, none⟩ (.int .i64 c1.key)).setCell ⟨w1.heap.size, 6, none⟩ (.int .i64 c1.fr)).setCell ⟨w1.heap.size, 7, none⟩ (.int .i64 c1.un)).setCell ⟨w1.heap.size, 8, none⟩ (.int .i64 c1.to)).setCell ⟨w1.heap.size, 9, none⟩ (.int .i64 c1.e)).setCell ⟨w1.heap.size, 10, none⟩ (.int .i64 c1.s)) ∧ Ext w1 wc ∧ NcAt wc w1.heap.size c1 := ⟨_, rfl, ext_setN ea1 (Nat.le_refl _) c1, TA1.setN c1⟩
  have HZ1 := Lib.hid (show wc1.heap.size = wa1.heap.size by rw [hwc1]; simp)
  have hla1 := TA1.lt
  obtain ⟨ra0, ra1, ra2, ra3, ra4, ra5, ra6, ra7, ra8, ra9, ra10⟩ := TA1.cells
  have ga0 := TA1.frozen 0
  have ga1 := TA1.frozen 1
  have ga2 := TA1.frozen 2
  have ga3 := TA1.frozen 3
  have ga4 := TA1.frozen 4
  have ga5 := TA1.frozen 5
  have ga6 := TA1.frozen 6
  have ga7 := TA1.frozen 7
  have ga8 := TA1.frozen 8
  have ga9 := TA1.frozen 9
  have ga10 := TA1.frozen 10
  clear ea1
  unfold ncV
  go_wp2_with fail
  rw [← hwc1]
  clear hwc1 hwa1 hla1 TA1 ra0 ga0 ra1 ga1 ra2 ga2 ra3 ga3 ra4 ga4 ra5 ga5 ra6 ga6 ra7 ga7 ra8 ga8 ra9 ga9 ra10 ga10
  obtain ⟨p0, p1, p2, p3, p4, p5, p6, p7, p8, p9, p10⟩ := (TC1).cells
  have pf0 := (TC1).frozen 0
  have pf1 := (TC1).frozen 1
  have pf2 := (TC1).frozen 2
  have pf3 := (TC1).frozen 3
  have pf4 := (TC1).frozen 4
  have pf5 := (TC1).frozen 5
  have pf6 := (TC1).frozen 6
  have pf7 := (TC1).frozen 7
  have pf8 := (TC1).frozen 8
  have pf9 := (TC1).frozen 9
  have pf10 := (TC1).frozen 10
  have pl := (TC1).lt
  go_wp2_with fail
  refine (nencode_any c1 wc1 hsm).mono ?_
  rintro e w2 ⟨A2, n2, c2, rfl, hn2, r2, b2⟩
  have x2 := b1.tr (ec1.tr b2)
  have T2 := TC1.ext b2
  rw [HEK.out]
  clear ec1 HZ1
  clear p0 pf0 p1 pf1 p2 pf2 p3 pf3 p4 pf4 p5 pf5 p6 pf6 p7 pf7 p8 pf8 p9 pf9 p10 pf10 pl
  clear TC1
  go_wp2_with fail
  refine (ndecode_any _ r2 (by omega)).mono ?_
  rintro e w3 ⟨rfl, b3⟩
  have x3 := x2.tr b3
  have T3 := T2.ext b3
  rw [HD.out.1, HD.out.2]
  clear r2 hn2 T2 hln
  obtain ⟨wa2, hwb2, ea2, TA2⟩ := nzero_alloc w3
  have hwa2 := hwb2.symm
  clear hwb2
  obtain ⟨wc2, hwc2, ec2, TC2⟩ : ∃ wc, wc = (((((((((((wa2.setCell ⟨w3.heap.size, 0, none⟩ (.string (bstr c1.st))).setCell ⟨w3.heap.size, 1, none⟩ (.int .i64 c1.kind)).setCell ⟨w3.heap.size, 2, none⟩ (.int .i64 c1.num)).setCell ⟨w3.heap.size, 3, none⟩ (.int .i64 c1.iss)).setCell ⟨w3.heap.size, 4, none⟩ (.int .i64 c1.own)).setCell ⟨w3.heap.size, 5, none⟩ (.int .i64 c1.key)).setCell ⟨w3.heap.size, 6, none⟩ (.int .i64 c1.fr)).setCell ⟨w3.heap.size, 7, none⟩ (.int .i64 c1.un)).setCell ⟨w3.heap.size, 8, none⟩ (.int .i64 c1.to)).setCell ⟨w3.heap.size, 9, none⟩ (.int .i64 c1.e)).setCell ⟨w3.heap.size, 10, none⟩ (.int .i64 c1.s)) ∧ Ext w3 wc ∧ NcAt wc w3.heap.size c1 := ⟨_, rfl, ext_setN ea2 (Nat.le_refl _) c1, TA2.setN c1⟩
  have HZ2 := Lib.hid (show wc2.heap.size = wa2.heap.size by rw [hwc2]; simp)
  have hla2 := TA2.lt
  obtain ⟨ra0, ra1, ra2, ra3, ra4, ra5, ra6, ra7, ra8, ra9, ra10⟩ := TA2.cells
  have ga0 := TA2.frozen 0
  have ga1 := TA2.frozen 1
  have ga2 := TA2.frozen 2
  have ga3 := TA2.frozen 3
  have ga4 := TA2.frozen 4
  have ga5 := TA2.frozen 5
  have ga6 := TA2.frozen 6
  have ga7 := TA2.frozen 7
  have ga8 := TA2.frozen 8
  have ga9 := TA2.frozen 9
  have ga10 := TA2.frozen 10
  clear ea2
  unfold ncV
  go_upto_region 5 with fail
  rw [← hwc2]
  clear hwc2 hwa2 hla2 TA2 ra0 ga0 ra1 ga1 ra2 ga2 ra3 ga3 ra4 ga4 ra5 ga5 ra6 ga6 ra7 ga7 ra8 ga8 ra9 ga9 ra10 ga10
  have T4 := T3.ext ec2
  have x4 := x3.tr ec2
  have KD := Lib.hid (fun W (x : Ext wc2 W) => E.below (x4.tr x))
  clear HZ2 T3
  obtain ⟨p0, p1, p2, p3, p4, p5, p6, p7, p8, p9, p10⟩ := (T4).cells
  have pf0 := (T4).frozen 0
  have pf1 := (T4).frozen 1
  have pf2 := (T4).frozen 2
  have pf3 := (T4).frozen 3
  have pf4 := (T4).frozen 4
  have pf5 := (T4).frozen 5
  have pf6 := (T4).frozen 6
  have pf7 := (T4).frozen 7
  have pf8 := (T4).frozen 8
  have pf9 := (T4).frozen 9
  have pf10 := (T4).frozen 10
  have pl := (T4).lt
  obtain ⟨q0, q1, q2, q3, q4, q5, q6, q7, q8, q9, q10⟩ := (TC2).cells
  have qf0 := (TC2).frozen 0
  have qf1 := (TC2).frozen 1
  have qf2 := (TC2).frozen 2
  have qf3 := (TC2).frozen 3
  have qf4 := (TC2).frozen 4
  have qf5 := (TC2).frozen 5
  have qf6 := (TC2).frozen 6
  have qf7 := (TC2).frozen 7
  have qf8 := (TC2).frozen 8
  have qf9 := (TC2).frozen 9
  have qf10 := (TC2).frozen 10
  have ql := (TC2).lt
  go_wp2_with fail
  refine (nationalcert_root c1 _ hsm (KD.out _ (Below.refl _ _))).mono ?_
  rintro e w5 ⟨rfl, b5⟩
  rw [H1.out]
  have T5 := T4.ext b5
  clear p0 pf0 p1 pf1 p2 pf2 p3 pf3 p4 pf4 p5 pf5 p6 pf6 p7 pf7 p8 pf8 p9 pf9 p10 pf10 pl
  clear q0 qf0 q1 qf1 q2 qf2 q3 qf3 q4 qf4 q5 qf5 q6 qf6 q7 qf7 q8 qf8 q9 qf9 q10 qf10 ql
  clear T4 TC2
  obtain ⟨p0, p1, p2, p3, p4, p5, p6, p7, p8, p9, p10⟩ := (T5).cells
  have pf0 := (T5).frozen 0
  have pf1 := (T5).frozen 1
  have pf2 := (T5).frozen 2
  have pf3 := (T5).frozen 3
  have pf4 := (T5).frozen 4
  have pf5 := (T5).frozen 5
  have pf6 := (T5).frozen 6
  have pf7 := (T5).frozen 7
  have pf8 := (T5).frozen 8
  have pf9 := (T5).frozen 9
  have pf10 := (T5).frozen 10
  have pl := (T5).lt
  go_wp2_with fail
  refine (nationalcert_on c1 30 _ hsm).mono ?_
  rintro e w6 ⟨rfl, b6⟩
  rw [O1.out]
  have T6 := T5.ext b6
  clear p0 pf0 p1 pf1 p2 pf2 p3 pf3 p4 pf4 p5 pf5 p6 pf6 p7 pf7 p8 pf8 p9 pf9 p10 pf10 pl
  clear T5
  obtain ⟨p0, p1, p2, p3, p4, p5, p6, p7, p8, p9, p10⟩ := (T6).cells
  have pf0 := (T6).frozen 0
  have pf1 := (T6).frozen 1
  have pf2 := (T6).frozen 2
  have pf3 := (T6).frozen 3
  have pf4 := (T6).frozen 4
  have pf5 := (T6).frozen 5
  have pf6 := (T6).frozen 6
  have pf7 := (T6).frozen 7
  have pf8 := (T6).frozen 8
  have pf9 := (T6).frozen 9
  have pf10 := (T6).frozen 10
  have pl := (T6).lt
  go_wp2_with fail
  refine (nationalcert_on c1 31 _ hsm).mono ?_
  rintro e w7 ⟨rfl, b7⟩
  rw [O2.out]
  have T7 := T6.ext b7
  clear p0 pf0 p1 pf1 p2 pf2 p3 pf3 p4 pf4 p5 pf5 p6 pf6 p7 pf7 p8 pf8 p9 pf9 p10 pf10 pl
  clear T6
  obtain ⟨p0, p1, p2, p3, p4, p5, p6, p7, p8, p9, p10⟩ := (T7).cells
  have pf0 := (T7).frozen 0
  have pf1 := (T7).frozen 1
  have pf2 := (T7).frozen 2
  have pf3 := (T7).frozen 3
  have pf4 := (T7).frozen 4
  have pf5 := (T7).frozen 5
  have pf6 := (T7).frozen 6
  have pf7 := (T7).frozen 7
  have pf8 := (T7).frozen 8
  have pf9 := (T7).frozen 9
  have pf10 := (T7).frozen 10
  have pl := (T7).lt
  go_wp2_with fail
  refine (nationalcert_on c1 9 _ hsm).mono ?_
  rintro e w8 ⟨rfl, b8⟩
  rw [O3.out]
  have x8 := x4.tr (b5.tr (b6.tr (b7.tr b8)))
  clear p0 pf0 p1 pf1 p2 pf2 p3 pf3 p4 pf4 p5 pf5 p6 pf6 p7 pf7 p8 pf8 p9 pf9 p10 pf10 pl
  go_wp2_with fail
  go_ret
  exact ⟨rfl, x8⟩
theorem awake29_any (w : World) (E : KTab w 1) : Calls Tryd.prog 21 #[] w (RetQ w (.bool true)) :=
  awake29_core (nearI 12) (pw 4 (nearI 12)) (near_in _) rfl (pub_elem (inB_true (near_in 12)).1 (inB_true (near_in 12)).2) (fun w => secretM_any 12 w (by omega) (by omega)) w E
end Go.Proofs.YteilglpdmfiinaaDoor
