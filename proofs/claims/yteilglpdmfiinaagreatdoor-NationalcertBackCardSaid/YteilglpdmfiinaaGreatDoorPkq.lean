/- Parts Nc Ne Na Nj of the proof. -/
import Derived.Test.YteilglpdmfiinaaGreatDoorPkn
import Derived.Test.YteilglpdmfiinaaGreatDoorPkk
import Derived.Test.YteilglpdmfiinaaGreatDoorMl
import Derived.Deep.CutRange
import Derived.Test.YteilglpdmfiinaaGreatDoorEv
namespace Go.Proofs.YteilglpdmfiinaaGreatDoor
open Go.RowKit
set_option linter.unusedVariables false
set_option maxRecDepth 100000

theorem run_buildN8 (W : World) (s : ByteArray) (a b c d e f g : Int) : (Instr.build 64 [(0, .string s), (1, .int .i64 a), (2, .int .i64 b), (3, .int .i64 c), (4, .int .i64 d), (6, .int .i64 e), (7, .int .i64 f), (8, .int .i64 g)].toArray).run Tryz.prog W = .ok (.agg #[.string s, .int .i64 a, .int .i64 b, .int .i64 c, .int .i64 d, .int .i64 0, .int .i64 e, .int .i64 f, .int .i64 g, .int .i64 0, .int .i64 0]) W := run_build W _ _ _ (by kernel_rfl)
theorem xPN_key {ts : List Nd} (h : ¬ gdOk (valN ts (qP 133))) : xPN ts = none := if_neg (fun q => h ⟨q.1, q.2.1⟩)
theorem xPN_si {ts : List Nd} (h : ¬ dcK (valN ts qS) = 0) : xPN ts = none := if_neg (fun q => h q.2.2)
theorem xPN_ok {ts : List Nd} (h1 : gdOk (valN ts (qP 133))) (h3 : dcK (valN ts qS) = 0) : xPN ts = some (⟨valN ts (qP 19), numA (valN ts (qP 129)) 0 1, numA (valN ts (qP 130)) 0 4, numA (valN ts (qP 131)) 0 4, numA (valN ts (qP 132)) 0 4, num (valN ts (qP 133)), numA (valN ts (qP 134)) 0 3, numA (valN ts (qP 134)) 3 3, numA (valN ts (qP 134)) 6 3, dcE (valN ts qS), dcS (valN ts qS)⟩ : NC) := if_pos ⟨h1.1, h1.2, h3⟩
set_option maxHeartbeats 8000000 in
theorem ndecode_any {a : Value} {l : List UInt8} (w : World) (ha : Rd w a (bvs l)) (hl : l.length ≤ 4096) :
    Calls Tryz.prog 41 #[a] w (RetQ w (.tuple #[ncV (dtCN l), .int .i64 (dtKN l)])) := by
  have HD := Lib.hid (dtN_by wrtPN l)
  obtain ⟨wz, hwz, z0, zr⟩ := nzero_alloc w
  have HA := Lib.hid ha
  clear ha
  go_enter Tryz.func41, Tryz.ntmps41
  go_wp2_with fail
  rw [← hwz]
  clear hwz
  refine (parse_any wz (HA.out.ext z0) (by omega)).mono ?_
  rintro e w1 ⟨b1, hp⟩
  rw [show parP l = objsP 1 0 l from if_neg (by omega)] at hp
  have x1 := z0.tr b1
  have zr1 := zr.ext b1
  clear zr z0 b1
  rcases hp with ⟨hnone, A, n, c, k, hk, rfl⟩ | ⟨ts, cnt, A, n, c, hsome, rfl, hr⟩
  · have HC := HD.out.2.2.2 hnone
    have hb : (k != 0) = true := by simpa using hk
    clear hnone HD hk
    have TZ : NcAt (set11 w1 w.heap.size (.string ⟨#[]⟩) (.int .i64 0) (.int .i64 0) (.int .i64 0) (.int .i64 0) (.int .i64 0) (.int .i64 0) (.int .i64 0) (.int .i64 0) (.int .i64 0) (.int .i64 0)) w.heap.size zeroN := (zr1).setN zeroN
    obtain ⟨r0, r1, r2, r3, r4, r5, r6, r7, r8, r9, r10⟩ := (zr1).cells
    have rf0 := (zr1).frozen 0
    have rf1 := (zr1).frozen 1
    have rf2 := (zr1).frozen 2
    have rf3 := (zr1).frozen 3
    have rf4 := (zr1).frozen 4
    have rf5 := (zr1).frozen 5
    have rf6 := (zr1).frozen 6
    have rf7 := (zr1).frozen 7
    have rf8 := (zr1).frozen 8
    have rf9 := (zr1).frozen 9
    have rf10 := (zr1).frozen 10
    have rl := (zr1).lt
    go_wp2_with fail
    refine bodyPost_ret (v := .tuple #[ncV zeroN, .int .i64 1]) ?_ rfl ⟨by rw [HC.1, HC.2], ext_setN (x1) (Nat.le_refl _) zeroN⟩
    obtain ⟨q0, q1, q2, q3, q4, q5, q6, q7, q8, q9, q10⟩ := TZ.cells
    clear r0 rf0 r1 rf1 r2 rf2 r3 rf3 r4 rf4 r5 rf5 r6 rf6 r7 rf7 r8 rf8 r9 rf9 r10 rf10 rl
    simp [results, Tryz.results41, go_sem, ncV, q0, q1, q2, q3, q4, q5, q6, q7, q8, q9, q10]
  · have hsz := objsP_sz l.length l 8 0 1 ts cnt (Nat.le_refl _) hl (by omega) (by omega) hsome
    have HS := Lib.hid hsz
    have HR := Lib.hid hr
    have HO := Lib.hid hsome
    clear hr hsome hsz
    go_wp2_with fail
    refine (nvalue_any (d := 8) (ts := ts) 134 _ HR.out HS.out).mono ?_
    rintro e w2 ⟨A6, n6, c6, rfl, hn6, r6, b2⟩
    have x2 := x1.tr b2
    have zr2 := zr1.ext b2
    have HR2 := Lib.hid (HR.out.ext b2)
    have HD6 := Lib.hid r6
    clear x1 b2 zr1 HR hn6 r6
    go_wp2_with fail
    refine Gd.wp_region_X 23 (by kernel_rfl) (by kernel_rfl) ?_
    simp only [List.take_succ_cons, List.take_zero, List.drop_succ_cons, List.drop_zero]
    intro wq hw1
    have LL : ∀ m : Lt wq, Ext w2 m.1 := fun m => hw1.tr m.2
    repeat (refine Gd.wpX_pure (by first | exact trivial | exact ⟨_, rfl, rfl, rfl⟩) rfl rfl rfl rfl rfl (fun K hK => ?_); go_big_quiet_op; refine hK _ ?_; clear hK K)
    refine Gd.wpX_callF (by first | exact trivial | exact ⟨_, rfl, rfl, rfl⟩) (RB (valN ts (qP 19))) (stable_RB _) (fun _ => [.slice A n c, .int .i64 19]) rfl rfl rfl rfl rfl (by kernel_rfl) rfl (fun _ => rfl) (fun m f hf => (nvalue_any (d := 8) 19 m.1 (HR2.out.ext (LL m)) HS.out).mono fun _ _ h => h.rb) ?_
    simp only [Act.put, List.setIfInBounds_toArray, List.set_cons_zero, List.set_cons_succ]
    refine Gd.wpX_convL (by first | exact trivial | exact ⟨_, rfl, rfl, rfl⟩) (fun v _ => v = .string (bstr (valN ts (qP 19)))) (stable_eq _) (fun f => f 23) rfl rfl rfl rfl rfl (fun f => rfl) (fun m f hf => ⟨_, _, run_strV (hf 23 _ rfl rfl), Below.refl _ _, rfl⟩) ?_
    simp only [Act.put, List.setIfInBounds_toArray, List.set_cons_zero, List.set_cons_succ]
    repeat (refine Gd.wpX_pure (by first | exact trivial | exact ⟨_, rfl, rfl, rfl⟩) rfl rfl rfl rfl rfl (fun K hK => ?_); go_big_quiet_op; refine hK _ ?_; clear hK K)
    refine Gd.wpX_callF (by first | exact trivial | exact ⟨_, rfl, rfl, rfl⟩) (RB (valN ts (qP 129))) (stable_RB _) (fun _ => [.slice A n c, .int .i64 129]) rfl rfl rfl rfl rfl (by kernel_rfl) rfl (fun _ => rfl) (fun m f hf => (nvalue_any (d := 8) 129 m.1 (HR2.out.ext (LL m)) HS.out).mono fun _ _ h => h.rb) ?_
    simp only [Act.put, List.setIfInBounds_toArray, List.set_cons_zero, List.set_cons_succ]
    refine Gd.wpX_callUse (by first | exact trivial | exact ⟨_, rfl, rfl, rfl⟩) 26 (RB (valN ts (qP 129))) (.int .i64 (numA (valN ts (qP 129)) 0 1)) (fun u => [u, .int .i64 0, .int .i64 1]) rfl rfl rfl rfl rfl rfl rfl (fun u => rfl) (by kernel_rfl) (fun u => rfl) (fun m u hu => (nnumber_any 0 1 m.1 hu rfl rfl (by omega) (by omega) (by omega)).mono fun _ _ ⟨h1, h2⟩ => ⟨h1, h2 ▸ Below.refl _ _⟩) ?_
    simp only [Act.put, List.setIfInBounds_toArray, List.set_cons_zero, List.set_cons_succ]
    repeat (refine Gd.wpX_pure (by first | exact trivial | exact ⟨_, rfl, rfl, rfl⟩) rfl rfl rfl rfl rfl (fun K hK => ?_); go_big_quiet_op; refine hK _ ?_; clear hK K)
    refine Gd.wpX_callF (by first | exact trivial | exact ⟨_, rfl, rfl, rfl⟩) (RB (valN ts (qP 130))) (stable_RB _) (fun _ => [.slice A n c, .int .i64 130]) rfl rfl rfl rfl rfl (by kernel_rfl) rfl (fun _ => rfl) (fun m f hf => (nvalue_any (d := 8) 130 m.1 (HR2.out.ext (LL m)) HS.out).mono fun _ _ h => h.rb) ?_
    simp only [Act.put, List.setIfInBounds_toArray, List.set_cons_zero, List.set_cons_succ]
    refine Gd.wpX_callUse (by first | exact trivial | exact ⟨_, rfl, rfl, rfl⟩) 29 (RB (valN ts (qP 130))) (.int .i64 (numA (valN ts (qP 130)) 0 4)) (fun u => [u, .int .i64 0, .int .i64 4]) rfl rfl rfl rfl rfl rfl rfl (fun u => rfl) (by kernel_rfl) (fun u => rfl) (fun m u hu => (nnumber_any 0 4 m.1 hu rfl rfl (by omega) (by omega) (by omega)).mono fun _ _ ⟨h1, h2⟩ => ⟨h1, h2 ▸ Below.refl _ _⟩) ?_
    simp only [Act.put, List.setIfInBounds_toArray, List.set_cons_zero, List.set_cons_succ]
    repeat (refine Gd.wpX_pure (by first | exact trivial | exact ⟨_, rfl, rfl, rfl⟩) rfl rfl rfl rfl rfl (fun K hK => ?_); go_big_quiet_op; refine hK _ ?_; clear hK K)
    refine Gd.wpX_callF (by first | exact trivial | exact ⟨_, rfl, rfl, rfl⟩) (RB (valN ts (qP 131))) (stable_RB _) (fun _ => [.slice A n c, .int .i64 131]) rfl rfl rfl rfl rfl (by kernel_rfl) rfl (fun _ => rfl) (fun m f hf => (nvalue_any (d := 8) 131 m.1 (HR2.out.ext (LL m)) HS.out).mono fun _ _ h => h.rb) ?_
    simp only [Act.put, List.setIfInBounds_toArray, List.set_cons_zero, List.set_cons_succ]
    refine Gd.wpX_callUse (by first | exact trivial | exact ⟨_, rfl, rfl, rfl⟩) 32 (RB (valN ts (qP 131))) (.int .i64 (numA (valN ts (qP 131)) 0 4)) (fun u => [u, .int .i64 0, .int .i64 4]) rfl rfl rfl rfl rfl rfl rfl (fun u => rfl) (by kernel_rfl) (fun u => rfl) (fun m u hu => (nnumber_any 0 4 m.1 hu rfl rfl (by omega) (by omega) (by omega)).mono fun _ _ ⟨h1, h2⟩ => ⟨h1, h2 ▸ Below.refl _ _⟩) ?_
    simp only [Act.put, List.setIfInBounds_toArray, List.set_cons_zero, List.set_cons_succ]
    repeat (refine Gd.wpX_pure (by first | exact trivial | exact ⟨_, rfl, rfl, rfl⟩) rfl rfl rfl rfl rfl (fun K hK => ?_); go_big_quiet_op; refine hK _ ?_; clear hK K)
    refine Gd.wpX_callF (by first | exact trivial | exact ⟨_, rfl, rfl, rfl⟩) (RB (valN ts (qP 132))) (stable_RB _) (fun _ => [.slice A n c, .int .i64 132]) rfl rfl rfl rfl rfl (by kernel_rfl) rfl (fun _ => rfl) (fun m f hf => (nvalue_any (d := 8) 132 m.1 (HR2.out.ext (LL m)) HS.out).mono fun _ _ h => h.rb) ?_
    simp only [Act.put, List.setIfInBounds_toArray, List.set_cons_zero, List.set_cons_succ]
    refine Gd.wpX_callUse (by first | exact trivial | exact ⟨_, rfl, rfl, rfl⟩) 35 (RB (valN ts (qP 132))) (.int .i64 (numA (valN ts (qP 132)) 0 4)) (fun u => [u, .int .i64 0, .int .i64 4]) rfl rfl rfl rfl rfl rfl rfl (fun u => rfl) (by kernel_rfl) (fun u => rfl) (fun m u hu => (nnumber_any 0 4 m.1 hu rfl rfl (by omega) (by omega) (by omega)).mono fun _ _ ⟨h1, h2⟩ => ⟨h1, h2 ▸ Below.refl _ _⟩) ?_
    simp only [Act.put, List.setIfInBounds_toArray, List.set_cons_zero, List.set_cons_succ]
    repeat (refine Gd.wpX_pure (by first | exact trivial | exact ⟨_, rfl, rfl, rfl⟩) rfl rfl rfl rfl rfl (fun K hK => ?_); go_big_quiet_op; refine hK _ ?_; clear hK K)
    refine Gd.wpX_callFn (by first | exact trivial | exact ⟨_, rfl, rfl, rfl⟩) (.int .i64 (numA (valN ts (qP 134)) 0 3)) (args := [.slice A6 n6 c6, .int .i64 0, .int .i64 3]) rfl rfl rfl rfl (by kernel_rfl) rfl rfl (fun m => (nnumber_any 0 3 m.1 (HD6.out.ext (LL m)) rfl rfl (by omega) (by omega) (by omega)).mono fun _ _ ⟨h1, h2⟩ => ⟨h1, h2 ▸ Below.refl _ _⟩) ?_
    simp only [Act.put, List.setIfInBounds_toArray, List.set_cons_zero, List.set_cons_succ]
    repeat (refine Gd.wpX_pure (by first | exact trivial | exact ⟨_, rfl, rfl, rfl⟩) rfl rfl rfl rfl rfl (fun K hK => ?_); go_big_quiet_op; refine hK _ ?_; clear hK K)
    refine Gd.wpX_callFn (by first | exact trivial | exact ⟨_, rfl, rfl, rfl⟩) (.int .i64 (numA (valN ts (qP 134)) 3 3)) (args := [.slice A6 n6 c6, .int .i64 3, .int .i64 3]) rfl rfl rfl rfl (by kernel_rfl) rfl rfl (fun m => (nnumber_any 3 3 m.1 (HD6.out.ext (LL m)) rfl rfl (by omega) (by omega) (by omega)).mono fun _ _ ⟨h1, h2⟩ => ⟨h1, h2 ▸ Below.refl _ _⟩) ?_
    simp only [Act.put, List.setIfInBounds_toArray, List.set_cons_zero, List.set_cons_succ]
    repeat (refine Gd.wpX_pure (by first | exact trivial | exact ⟨_, rfl, rfl, rfl⟩) rfl rfl rfl rfl rfl (fun K hK => ?_); go_big_quiet_op; refine hK _ ?_; clear hK K)
    refine Gd.wpX_callFn (by first | exact trivial | exact ⟨_, rfl, rfl, rfl⟩) (.int .i64 (numA (valN ts (qP 134)) 6 3)) (args := [.slice A6 n6 c6, .int .i64 6, .int .i64 3]) rfl rfl rfl rfl (by kernel_rfl) rfl rfl (fun m => (nnumber_any 6 3 m.1 (HD6.out.ext (LL m)) rfl rfl (by omega) (by omega) (by omega)).mono fun _ _ ⟨h1, h2⟩ => ⟨h1, h2 ▸ Below.refl _ _⟩) ?_
    simp only [Act.put, List.setIfInBounds_toArray, List.set_cons_zero, List.set_cons_succ]
    repeat (refine Gd.wpX_pure (by first | exact trivial | exact ⟨_, rfl, rfl, rfl⟩) rfl rfl rfl rfl rfl (fun K hK => ?_); go_big_quiet_op; refine hK _ ?_; clear hK K)
    refine Gd.wpX_buildL (by first | exact trivial | exact ⟨_, rfl, rfl, rfl⟩) (fun v _ => v = ncV (⟨valN ts (qP 19), numA (valN ts (qP 129)) 0 1, numA (valN ts (qP 130)) 0 4, numA (valN ts (qP 131)) 0 4, numA (valN ts (qP 132)) 0 4, 0, numA (valN ts (qP 134)) 0 3, numA (valN ts (qP 134)) 3 3, numA (valN ts (qP 134)) 6 3, 0, 0⟩ : NC)) (stable_eq _) (fun f => [(0, f 24), (1, .int .i64 (numA (valN ts (qP 129)) 0 1)), (2, .int .i64 (numA (valN ts (qP 130)) 0 4)), (3, .int .i64 (numA (valN ts (qP 131)) 0 4)), (4, .int .i64 (numA (valN ts (qP 132)) 0 4)), (6, .int .i64 (numA (valN ts (qP 134)) 0 3)), (7, .int .i64 (numA (valN ts (qP 134)) 3 3)), (8, .int .i64 (numA (valN ts (qP 134)) 6 3))]) rfl rfl rfl rfl rfl (fun f => rfl) (fun m f hf => ⟨_, _, by rw [hf 24 _ rfl rfl]; exact run_buildN8 m.1 _ _ _ _ _ _ _ _, Below.refl _ _, rfl⟩) ?_
    simp only [Act.put, List.setIfInBounds_toArray, List.set_cons_zero, List.set_cons_succ]
    refine Gd.wpX_allocNc (by first | exact trivial | exact ⟨_, rfl, rfl, rfl⟩) rfl rfl rfl rfl ?_
    simp only [Act.put, List.setIfInBounds_toArray, List.set_cons_zero, List.set_cons_succ]
    refine Gd.wpX_endL (fun m f hf => ?_)
    have e43 := hf 43 _ rfl
    obtain ⟨cb, e7, hcb0, TZ0⟩ := hf 7 _ rfl
    simp only [fillH]
    simp only [Act.put, List.setIfInBounds_toArray, List.set_cons_zero, List.set_cons_succ]
    rw [e43, e7]
    have Lm := LL m
    have hw15 := hw1.size
    obtain ⟨wm, hwm⟩ := m
    have Lm : Ext w2 wm := Lm
    have TZ0 : NcAt wm cb zeroN := TZ0
    have hcb : w2.heap.size ≤ cb := Nat.le_trans hw15 hcb0
    generalize f 23 = f23 at *
    generalize f 24 = f24 at *
    generalize f 26 = f26 at *
    generalize f 29 = f29 at *
    generalize f 32 = f32 at *
    generalize f 35 = f35 at *
    clear LL hf e43 e7 HD6 hw15 hcb0
    show wpList _ _ _ _ _ _
    generalize hC0 : (⟨valN ts (qP 19), numA (valN ts (qP 129)) 0 1, numA (valN ts (qP 130)) 0 4, numA (valN ts (qP 131)) 0 4, numA (valN ts (qP 132)) 0 4, 0, numA (valN ts (qP 134)) 0 3, numA (valN ts (qP 134)) 3 3, numA (valN ts (qP 134)) 6 3, 0, 0⟩ : NC) = c0
    have HC0 := Lib.hid hC0.symm
    clear hC0
    have hne : w.heap.size ≠ cb := by have := zr2.lt; omega
    have hcw : w.heap.size ≤ cb := Nat.le_trans x2.size hcb
    obtain ⟨wn, hwn, ec1, TC1⟩ : ∃ wn, wn = (((((((((((wm.setCell ⟨cb, 0, none⟩ (.string (bstr c0.st))).setCell ⟨cb, 1, none⟩ (.int .i64 c0.kind)).setCell ⟨cb, 2, none⟩ (.int .i64 c0.num)).setCell ⟨cb, 3, none⟩ (.int .i64 c0.iss)).setCell ⟨cb, 4, none⟩ (.int .i64 c0.own)).setCell ⟨cb, 5, none⟩ (.int .i64 c0.key)).setCell ⟨cb, 6, none⟩ (.int .i64 c0.fr)).setCell ⟨cb, 7, none⟩ (.int .i64 c0.un)).setCell ⟨cb, 8, none⟩ (.int .i64 c0.to)).setCell ⟨cb, 9, none⟩ (.int .i64 c0.e)).setCell ⟨cb, 10, none⟩ (.int .i64 c0.s)) ∧ Ext w2 wn ∧ NcAt wn cb c0 := ⟨_, rfl, ext_setN Lm hcb c0, TZ0.setN c0⟩
    obtain ⟨p0, p1, p2, p3, p4, p5, p6, p7, p8, p9, p10⟩ := (TZ0).cells
    have pf0 := (TZ0).frozen 0
    have pf1 := (TZ0).frozen 1
    have pf2 := (TZ0).frozen 2
    have pf3 := (TZ0).frozen 3
    have pf4 := (TZ0).frozen 4
    have pf5 := (TZ0).frozen 5
    have pf6 := (TZ0).frozen 6
    have pf7 := (TZ0).frozen 7
    have pf8 := (TZ0).frozen 8
    have pf9 := (TZ0).frozen 9
    have pf10 := (TZ0).frozen 10
    have pl := (TZ0).lt
    unfold ncV
    go_wp2_with fail
    rw [← hwn]
    clear hwn Lm
    clear p0 pf0 p1 pf1 p2 pf2 p3 pf3 p4 pf4 p5 pf5 p6 pf6 p7 pf7 p8 pf8 p9 pf9 p10 pf10 pl
    clear TZ0
    refine (nvalue_any (d := 8) (ts := ts) 133 _ (HR2.out.ext ec1) HS.out).mono ?_
    rintro e w5 ⟨A5, n5, c5, rfl, hn5, r5, b5⟩
    have y5 := ec1.tr b5
    have TC5 := TC1.ext b5
    clear TC1 hn5 b5 ec1
    go_wp2_with fail
    refine (gdecode_any _ r5).mono ?_
    rintro e w6 ⟨rfl, b6⟩
    have y6 := y5.tr b6
    have TC6 := TC5.ext b6
    clear y5 TC5 r5 b6
    obtain ⟨we, hwe, ye, TCe⟩ : ∃ we, we = w6.setCell ⟨cb, 5, none⟩ (.int .i64 (gdV (valN ts (qP 133)))) ∧ Ext w2 we ∧ NcAt we cb ⟨c0.st, c0.kind, c0.num, c0.iss, c0.own, gdV (valN ts (qP 133)), c0.fr, c0.un, c0.to, c0.e, c0.s⟩ :=
      ⟨_, rfl, ext_set y6 hcb, TC6.setKey _⟩
    obtain ⟨p0, p1, p2, p3, p4, p5, p6, p7, p8, p9, p10⟩ := (TC6).cells
    have pf0 := (TC6).frozen 0
    have pf1 := (TC6).frozen 1
    have pf2 := (TC6).frozen 2
    have pf3 := (TC6).frozen 3
    have pf4 := (TC6).frozen 4
    have pf5 := (TC6).frozen 5
    have pf6 := (TC6).frozen 6
    have pf7 := (TC6).frozen 7
    have pf8 := (TC6).frozen 8
    have pf9 := (TC6).frozen 9
    have pf10 := (TC6).frozen 10
    have pl := (TC6).lt
    by_cases hgd : gdOk (valN ts (qP 133))
    case neg =>
      have HC := HD.out.2.2.1 ts cnt HO.out (xPN_key hgd)
      have hb : (gdK (valN ts (qP 133)) != 0) = true := by unfold gdK; rw [if_neg hgd]; split <;> rfl
      clear hgd HD hwe ye TCe
      have zr6 := zr2.ext y6
      have zrq := zr6.other (b := cb) (i := 5) (v := .int .i64 (gdV (valN ts (qP 133)))) hne
      have TZ : NcAt (set11 (w6.setCell ⟨cb, 5, none⟩ (.int .i64 (gdV (valN ts (qP 133))))) w.heap.size (.string ⟨#[]⟩) (.int .i64 0) (.int .i64 0) (.int .i64 0) (.int .i64 0) (.int .i64 0) (.int .i64 0) (.int .i64 0) (.int .i64 0) (.int .i64 0) (.int .i64 0)) w.heap.size zeroN := (zrq).setN zeroN
      obtain ⟨r0, r1, r2, r3, r4, r5, r6, r7, r8, r9, r10⟩ := (zr6).cells
      have rf0 := (zr6).frozen 0
      have rf1 := (zr6).frozen 1
      have rf2 := (zr6).frozen 2
      have rf3 := (zr6).frozen 3
      have rf4 := (zr6).frozen 4
      have rf5 := (zr6).frozen 5
      have rf6 := (zr6).frozen 6
      have rf7 := (zr6).frozen 7
      have rf8 := (zr6).frozen 8
      have rf9 := (zr6).frozen 9
      have rf10 := (zr6).frozen 10
      have rl := (zr6).lt
      go_wp2_with fail
      refine bodyPost_ret (v := .tuple #[ncV zeroN, .int .i64 1]) ?_ rfl ⟨by rw [HC.1, HC.2], ext_setN (ext_set (x2.tr y6) hcw) (Nat.le_refl _) zeroN⟩
      obtain ⟨q0, q1, q2, q3, q4, q5, q6, q7, q8, q9, q10⟩ := TZ.cells
      clear r0 rf0 r1 rf1 r2 rf2 r3 rf3 r4 rf4 r5 rf5 r6 rf6 r7 rf7 r8 rf8 r9 rf9 r10 rf10 rl
      simp [results, Tryz.results41, go_sem, ncV, q0, q1, q2, q3, q4, q5, q6, q7, q8, q9, q10]
    case pos =>
      have HG := Lib.hid hgd
      rw [show gdK (valN ts (qP 133)) = 0 from if_pos hgd]
      have hgv : gdV (valN ts (qP 133)) = num (valN ts (qP 133)) := if_pos hgd
      rw [hgv] at hwe TCe ⊢
      have HZe := Lib.hid (show we.heap.size = w6.heap.size by rw [hwe]; simp)
      have e7 : Ext we (we.alloc (.cells #[.int .i64 48, .int .i64 3] 3)) := (Below.refl _ _).alloc (Nat.le_refl _) _
      clear hgd hgv
      go_wp2_with fail
      rw [← hwe, ← HZe.out]
      clear hwe HZe
      clear p0 pf0 p1 pf1 p2 pf2 p3 pf3 p4 pf4 p5 pf5 p6 pf6 p7 pf7 p8 pf8 p9 pf9 p10 pf10 pl
      clear TC6 y6
      refine (find_any (d := 8) (ts := ts) (path := qS) _ (HR2.out.ext (ye.tr e7)) HS.out (rdi2 we 48 3)).mono ?_
      rintro e w7 ⟨b7, v, ⟨t8, A8, n8, c8, A82, n82, c82, rfl, hS⟩, rfl⟩
      have y7 := ye.tr (e7.tr b7)
      have TC7 := TCe.ext (e7.tr b7)
      clear ye e7 b7 TCe
      obtain ⟨w8, hw8, e8, T8⟩ := nd_alloc w7 (.int .i64 t8) (.slice A8 n8 c8) (.slice A82 n82 c82)
      have hw8' := hw8.symm
      clear hw8
      have HSg := Lib.hid (hS.ext e8)
      have y8 := y7.tr e8
      have TC8 := TC7.ext e8
      clear hS e8 y7 TC7
      obtain ⟨_, k1, _, _, _, _⟩ := T8.cells
      have kl := T8.lt
      go_wp2_with fail
      refine (decode_any _ HSg.out).mono ?_
      rintro e w9 ⟨rfl, b9⟩
      have y9 := y8.tr b9
      have TC9 := TC8.ext b9
      clear y8 TC8 b9 k1 kl T8 hw8' HSg
      unfold sgV
      obtain ⟨wg, hwg, yg, TCg⟩ : ∃ wg, wg = (w9.setCell ⟨cb, 9, none⟩ (.int .i64 (dcE (valN ts qS)))).setCell ⟨cb, 10, none⟩ (.int .i64 (dcS (valN ts qS))) ∧ Ext w2 wg ∧ NcAt wg cb ⟨c0.st, c0.kind, c0.num, c0.iss, c0.own, num (valN ts (qP 133)), c0.fr, c0.un, c0.to, dcE (valN ts qS), dcS (valN ts qS)⟩ :=
        ⟨_, rfl, ext_set (ext_set y9 hcb) hcb, TC9.setSig _ _⟩
      obtain ⟨p0, p1, p2, p3, p4, p5, p6, p7, p8, p9, p10⟩ := (TC9).cells
      have pf0 := (TC9).frozen 0
      have pf1 := (TC9).frozen 1
      have pf2 := (TC9).frozen 2
      have pf3 := (TC9).frozen 3
      have pf4 := (TC9).frozen 4
      have pf5 := (TC9).frozen 5
      have pf6 := (TC9).frozen 6
      have pf7 := (TC9).frozen 7
      have pf8 := (TC9).frozen 8
      have pf9 := (TC9).frozen 9
      have pf10 := (TC9).frozen 10
      have pl := (TC9).lt
      by_cases hds : dcK (valN ts qS) = 0
      case neg =>
        have HC := HD.out.2.2.1 ts cnt HO.out (xPN_si hds)
        have hb : (dcK (valN ts qS) != 0) = true := by simpa using hds
        clear HD hds hwg yg TCg
        have zr9 := zr2.ext y9
        have zrq := (zr9.other (b := cb) (i := 9) (v := .int .i64 (dcE (valN ts qS))) hne).other (b := cb) (i := 10) (v := .int .i64 (dcS (valN ts qS))) hne
        have TZ : NcAt (set11 ((w9.setCell ⟨cb, 9, none⟩ (.int .i64 (dcE (valN ts qS)))).setCell ⟨cb, 10, none⟩ (.int .i64 (dcS (valN ts qS)))) w.heap.size (.string ⟨#[]⟩) (.int .i64 0) (.int .i64 0) (.int .i64 0) (.int .i64 0) (.int .i64 0) (.int .i64 0) (.int .i64 0) (.int .i64 0) (.int .i64 0) (.int .i64 0)) w.heap.size zeroN := (zrq).setN zeroN
        obtain ⟨r0, r1, r2, r3, r4, r5, r6, r7, r8, r9, r10⟩ := (zr9).cells
        have rf0 := (zr9).frozen 0
        have rf1 := (zr9).frozen 1
        have rf2 := (zr9).frozen 2
        have rf3 := (zr9).frozen 3
        have rf4 := (zr9).frozen 4
        have rf5 := (zr9).frozen 5
        have rf6 := (zr9).frozen 6
        have rf7 := (zr9).frozen 7
        have rf8 := (zr9).frozen 8
        have rf9 := (zr9).frozen 9
        have rf10 := (zr9).frozen 10
        have rl := (zr9).lt
        go_wp2_with fail
        refine bodyPost_ret (v := .tuple #[ncV zeroN, .int .i64 1]) ?_ rfl ⟨by rw [HC.1, HC.2], ext_setN (ext_set (ext_set (x2.tr y9) hcw) hcw) (Nat.le_refl _) zeroN⟩
        obtain ⟨q0, q1, q2, q3, q4, q5, q6, q7, q8, q9, q10⟩ := TZ.cells
        clear r0 rf0 r1 rf1 r2 rf2 r3 rf3 r4 rf4 r5 rf5 r6 rf6 r7 rf7 r8 rf8 r9 rf9 r10 rf10 rl
        simp [results, Tryz.results41, go_sem, ncV, q0, q1, q2, q3, q4, q5, q6, q7, q8, q9, q10]
      case pos =>
        have hx := xPN_ok HG.out hds
        have HM := Lib.hid (show smN ⟨c0.st, c0.kind, c0.num, c0.iss, c0.own, num (valN ts (qP 133)), c0.fr, c0.un, c0.to, dcE (valN ts qS), dcS (valN ts qS)⟩ from by rw [HC0.out]; exact valN_len (qP 19) 8 ts HS.out)
        have HX : Hid (xPN ts = some ⟨c0.st, c0.kind, c0.num, c0.iss, c0.own, num (valN ts (qP 133)), c0.fr, c0.un, c0.to, dcE (valN ts qS), dcS (valN ts qS)⟩) := by rw [HC0.out]; exact hx
        rw [hds]
        clear hx hds
        go_wp2_with fail
        rw [← hwg]
        clear hwg
        clear p0 pf0 p1 pf1 p2 pf2 p3 pf3 p4 pf4 p5 pf5 p6 pf6 p7 pf7 p8 pf8 p9 pf9 p10 pf10 pl
        clear TC9 y9
        refine (nencode_any _ wg HM.out).mono ?_
        obtain ⟨c, hc⟩ : ∃ c : NC, c = ⟨c0.st, c0.kind, c0.num, c0.iss, c0.own, num (valN ts (qP 133)), c0.fr, c0.un, c0.to, dcE (valN ts qS), dcS (valN ts qS)⟩ := ⟨_, rfl⟩
        rw [← hc] at HX TCg ⊢
        clear hc HM HC0
        rintro e w13 ⟨A13, n13, c13, rfl, hn13, r13, b13⟩
        have y13 := yg.tr b13
        have TC13 := TCg.ext b13
        clear yg b13 TCg
        by_cases hec : ecKN c = 0
        case neg =>
          have HC := HD.out.2.1 ts cnt c HO.out HX.out (fun q => hec q.1)
          have hb : (ecKN c != 0) = true := by simpa using hec
          clear HD hec
          have zr13 := zr2.ext y13
          have TZ : NcAt (set11 w13 w.heap.size (.string ⟨#[]⟩) (.int .i64 0) (.int .i64 0) (.int .i64 0) (.int .i64 0) (.int .i64 0) (.int .i64 0) (.int .i64 0) (.int .i64 0) (.int .i64 0) (.int .i64 0)) w.heap.size zeroN := (zr13).setN zeroN
          obtain ⟨r0, r1, r2, r3, r4, r5, r6, r7, r8, r9, r10⟩ := (zr13).cells
          have rf0 := (zr13).frozen 0
          have rf1 := (zr13).frozen 1
          have rf2 := (zr13).frozen 2
          have rf3 := (zr13).frozen 3
          have rf4 := (zr13).frozen 4
          have rf5 := (zr13).frozen 5
          have rf6 := (zr13).frozen 6
          have rf7 := (zr13).frozen 7
          have rf8 := (zr13).frozen 8
          have rf9 := (zr13).frozen 9
          have rf10 := (zr13).frozen 10
          have rl := (zr13).lt
          go_wp2_with fail
          refine bodyPost_ret (v := .tuple #[ncV zeroN, .int .i64 1]) ?_ rfl ⟨by rw [HC.1, HC.2], ext_setN (x2.tr y13) (Nat.le_refl _) zeroN⟩
          obtain ⟨q0, q1, q2, q3, q4, q5, q6, q7, q8, q9, q10⟩ := TZ.cells
          clear r0 rf0 r1 rf1 r2 rf2 r3 rf3 r4 rf4 r5 rf5 r6 rf6 r7 rf7 r8 rf8 r9 rf9 r10 rf10 rl
          simp [results, Tryz.results41, go_sem, ncV, q0, q1, q2, q3, q4, q5, q6, q7, q8, q9, q10]
        case pos =>
          have HE := Lib.hid hec
          rw [hec]
          clear hec
          go_wp2_with fail
          refine (osame_any _ r13 (HA.out.ext (x2.tr y13))).mono ?_
          rintro e w14 ⟨rfl, b14⟩
          have y14 := y13.tr b14
          have TC14 := TC13.ext b14
          clear y13 b14 TC13 r13 hn13
          have zr14 := zr2.ext y14
          by_cases hsm : ecBN c = l
          case neg =>
            rw [decide_eq_false hsm]
            have HC := HD.out.2.1 ts cnt c HO.out HX.out (fun q => hsm q.2)
            clear HD hsm
            have TZ : NcAt (set11 w14 w.heap.size (.string ⟨#[]⟩) (.int .i64 0) (.int .i64 0) (.int .i64 0) (.int .i64 0) (.int .i64 0) (.int .i64 0) (.int .i64 0) (.int .i64 0) (.int .i64 0) (.int .i64 0)) w.heap.size zeroN := (zr14).setN zeroN
            obtain ⟨r0, r1, r2, r3, r4, r5, r6, r7, r8, r9, r10⟩ := (zr14).cells
            have rf0 := (zr14).frozen 0
            have rf1 := (zr14).frozen 1
            have rf2 := (zr14).frozen 2
            have rf3 := (zr14).frozen 3
            have rf4 := (zr14).frozen 4
            have rf5 := (zr14).frozen 5
            have rf6 := (zr14).frozen 6
            have rf7 := (zr14).frozen 7
            have rf8 := (zr14).frozen 8
            have rf9 := (zr14).frozen 9
            have rf10 := (zr14).frozen 10
            have rl := (zr14).lt
            go_wp2_with fail
            refine bodyPost_ret (v := .tuple #[ncV zeroN, .int .i64 1]) ?_ rfl ⟨by rw [HC.1, HC.2], ext_setN (x2.tr y14) (Nat.le_refl _) zeroN⟩
            obtain ⟨q0, q1, q2, q3, q4, q5, q6, q7, q8, q9, q10⟩ := TZ.cells
            clear r0 rf0 r1 rf1 r2 rf2 r3 rf3 r4 rf4 r5 rf5 r6 rf6 r7 rf7 r8 rf8 r9 rf9 r10 rf10 rl
            simp [results, Tryz.results41, go_sem, ncV, q0, q1, q2, q3, q4, q5, q6, q7, q8, q9, q10]
          case pos =>
            rw [decide_eq_true hsm]
            have HC := HD.out.1 ts cnt c HO.out HX.out HE.out hsm
            clear HD hsm
            have TZ : NcAt (set11 w14 w.heap.size (.string (bstr c.st)) (.int .i64 c.kind) (.int .i64 c.num) (.int .i64 c.iss) (.int .i64 c.own) (.int .i64 c.key) (.int .i64 c.fr) (.int .i64 c.un) (.int .i64 c.to) (.int .i64 c.e) (.int .i64 c.s)) w.heap.size c := zr14.setN c
            obtain ⟨p0, p1, p2, p3, p4, p5, p6, p7, p8, p9, p10⟩ := (TC14).cells
            have pf0 := (TC14).frozen 0
            have pf1 := (TC14).frozen 1
            have pf2 := (TC14).frozen 2
            have pf3 := (TC14).frozen 3
            have pf4 := (TC14).frozen 4
            have pf5 := (TC14).frozen 5
            have pf6 := (TC14).frozen 6
            have pf7 := (TC14).frozen 7
            have pf8 := (TC14).frozen 8
            have pf9 := (TC14).frozen 9
            have pf10 := (TC14).frozen 10
            have pl := (TC14).lt
            obtain ⟨r0, r1, r2, r3, r4, r5, r6, r7, r8, r9, r10⟩ := (zr14).cells
            have rf0 := (zr14).frozen 0
            have rf1 := (zr14).frozen 1
            have rf2 := (zr14).frozen 2
            have rf3 := (zr14).frozen 3
            have rf4 := (zr14).frozen 4
            have rf5 := (zr14).frozen 5
            have rf6 := (zr14).frozen 6
            have rf7 := (zr14).frozen 7
            have rf8 := (zr14).frozen 8
            have rf9 := (zr14).frozen 9
            have rf10 := (zr14).frozen 10
            have rl := (zr14).lt
            go_wp2_with fail
            refine bodyPost_ret (v := .tuple #[ncV c, .int .i64 0]) ?_ rfl ⟨by rw [HC.1, HC.2], ext_setN (x2.tr y14) (Nat.le_refl _) c⟩
            obtain ⟨q0, q1, q2, q3, q4, q5, q6, q7, q8, q9, q10⟩ := TZ.cells
            clear r0 rf0 r1 rf1 r2 rf2 r3 rf3 r4 rf4 r5 rf5 r6 rf6 r7 rf7 r8 rf8 r9 rf9 r10 rf10 rl
            clear p0 pf0 p1 pf1 p2 pf2 p3 pf3 p4 pf4 p5 pf5 p6 pf6 p7 pf7 p8 pf8 p9 pf9 p10 pf10 pl
            simp [results, Tryz.results41, go_sem, ncV, q0, q1, q2, q3, q4, q5, q6, q7, q8, q9, q10]
end Go.Proofs.YteilglpdmfiinaaGreatDoor

namespace Go.Proofs.YteilglpdmfiinaaGreatDoor
open Go.RowKit
set_option linter.unusedVariables false
set_option maxRecDepth 100000

theorem run_buildN10 (W : World) (s : ByteArray) (a b c d e f g h x y : Int) : (Instr.build 64 [(0, .string s), (1, .int .i64 a), (2, .int .i64 b), (3, .int .i64 c), (4, .int .i64 d), (5, .int .i64 e), (6, .int .i64 f), (7, .int .i64 g), (8, .int .i64 h), (9, .agg #[.int .i64 x, .int .i64 y])].toArray).run Tryz.prog W = .ok (.agg #[.string s, .int .i64 a, .int .i64 b, .int .i64 c, .int .i64 d, .int .i64 e, .int .i64 f, .int .i64 g, .int .i64 h, .int .i64 x, .int .i64 y]) W := run_build W _ _ _ (by kernel_rfl)
theorem xRN_1 {ts : List Nd} (h : ¬ dcK (valN ts qS) = 0) : xRN ts = none := if_neg (fun q => h q.1)
theorem xRN_2 {ts : List Nd} (h : ¬ (valN ts (qP 134)).length = 9) : xRN ts = none := if_neg (fun q => h q.2.1)
theorem xRN_3 {ts : List Nd} (h : ¬ (valN ts (qP 129)).length = 1) : xRN ts = none := if_neg (fun q => h q.2.2.1)
theorem xRN_4 {ts : List Nd} (h : ¬ (valN ts (qP 130)).length = 4) : xRN ts = none := if_neg (fun q => h q.2.2.2.1)
theorem xRN_5 {ts : List Nd} (h : ¬ (valN ts (qP 131)).length = 4) : xRN ts = none := if_neg (fun q => h q.2.2.2.2.1)
theorem xRN_6 {ts : List Nd} (h : ¬ (valN ts (qP 132)).length = 4) : xRN ts = none := if_neg (fun q => h q.2.2.2.2.2.1)
theorem xRN_7 {ts : List Nd} (h : ¬ (valN ts (qP 133)).length = 4) : xRN ts = none := if_neg (fun q => h q.2.2.2.2.2.2)
set_option maxHeartbeats 8000000 in
theorem nrefdecode_any {a : Value} {l : List UInt8} (w : World) (ha : Rd w a (bvs l)) (hl : l.length ≤ 4096) :
    Calls Tryz.prog 42 #[a] w (RetQ w (.tuple #[ncV (dtCN l), .int .i64 (dtKN l)])) := by
  have HD := Lib.hid (dtN_by wrtRN l)
  obtain ⟨wz, hwz, z0, zr⟩ := nzero_alloc w
  obtain ⟨aA, an, ac, rfl, han, z1⟩ := ha.bytes
  subst han
  have HA := Lib.hid ha
  clear ha z1
  go_enter Tryz.func42, Tryz.ntmps42
  go_wp2_with fail
  rw [← hwz]
  clear hwz
  refine (refparse_any wz (HA.out.ext z0)).mono ?_
  rintro e w1 ⟨b1, hp⟩
  rw [show parP l = objsP 1 0 l from if_neg (by omega)] at hp
  have x1 := z0.tr b1
  have zr1 := zr.ext b1
  clear zr z0 b1
  rcases hp with ⟨hnone, A, n, c, k, hk, rfl⟩ | ⟨ts, cnt, A, n, cp, hsome, rfl, hr⟩
  · have HC := HD.out.2.2.2 hnone
    have hb : (k != 0) = true := by simpa using hk
    clear hnone HD hk
    have TZ : NcAt (set11 w1 w.heap.size (.string ⟨#[]⟩) (.int .i64 0) (.int .i64 0) (.int .i64 0) (.int .i64 0) (.int .i64 0) (.int .i64 0) (.int .i64 0) (.int .i64 0) (.int .i64 0) (.int .i64 0)) w.heap.size zeroN := (zr1).setN zeroN
    obtain ⟨r0, r1, r2, r3, r4, r5, r6, r7, r8, r9, r10⟩ := (zr1).cells
    have rf0 := (zr1).frozen 0
    have rf1 := (zr1).frozen 1
    have rf2 := (zr1).frozen 2
    have rf3 := (zr1).frozen 3
    have rf4 := (zr1).frozen 4
    have rf5 := (zr1).frozen 5
    have rf6 := (zr1).frozen 6
    have rf7 := (zr1).frozen 7
    have rf8 := (zr1).frozen 8
    have rf9 := (zr1).frozen 9
    have rf10 := (zr1).frozen 10
    have rl := (zr1).lt
    go_wp2_with fail
    refine bodyPost_ret (v := .tuple #[ncV zeroN, .int .i64 1]) ?_ rfl ⟨by rw [HC.1, HC.2], ext_setN (x1) (Nat.le_refl _) zeroN⟩
    obtain ⟨q0, q1, q2, q3, q4, q5, q6, q7, q8, q9, q10⟩ := TZ.cells
    clear r0 rf0 r1 rf1 r2 rf2 r3 rf3 r4 rf4 r5 rf5 r6 rf6 r7 rf7 r8 rf8 r9 rf9 r10 rf10 rl
    simp [results, Tryz.results42, go_sem, ncV, q0, q1, q2, q3, q4, q5, q6, q7, q8, q9, q10]
  · have hsz := objsP_sz l.length l 8 0 1 ts cnt (Nat.le_refl _) hl (by omega) (by omega) hsome
    have HS := Lib.hid hsz
    have HR := Lib.hid hr
    have HO := Lib.hid hsome
    clear hr hsome hsz
    go_wp2_with fail
    refine (ref29at_any (d := 8) (ts := ts) 134 _ HR.out).mono ?_
    rintro e w2 ⟨A6, n6, c6, rfl, hn6, r6, b2⟩
    have x12 := b2
    clear b2
    have e4 : Ext w2 (w2.alloc (.cells #[.int .i64 48, .int .i64 3] 3)) := (Below.refl _ _).alloc (Nat.le_refl _) _
    go_wp2_with fail
    refine (refvalue_any (d := 8) (ts := ts) (path := qS) _ (HR.out.ext (x12.tr e4)) (rdi2 w2 48 3) (by simp [qS])).mono ?_
    rintro e w3 ⟨As, ns, cs, rfl, hns, rs, b3⟩
    have x23 := e4.tr b3
    clear e4 b3
    go_wp2_with fail
    refine (refdecode_any _ rs).mono ?_
    rintro e w4 ⟨rfl, b4⟩
    unfold sgV
    obtain ⟨w5, hw5, s5⟩ := sg_alloc w4 (dcE (valN ts qS)) (dcS (valN ts qS))
    have hw5' := hw5.symm
    have x25 := (x23.tr b4).tr s5.ext
    have x15 := x12.tr x25
    have zr5 := zr1.ext x15
    have x5 := x1.tr x15
    have HR5 := Lib.hid (HR.out.ext x15)
    have H6 := Lib.hid (r6.ext x25)
    have S5 := Lib.hid s5
    clear hw5 s5 x23 b4 rs hns HR zr1 r6 x12 x25 x15 x1
    by_cases hds : dcK (valN ts qS) = 0
    case neg =>
      have HC := HD.out.2.2.1 ts cnt HO.out (xRN_1 hds)
      have hb : (dcK (valN ts qS) != 0) = true := by simpa using hds
      clear HD hds hn6
      have TZ : NcAt (set11 w5 w.heap.size (.string ⟨#[]⟩) (.int .i64 0) (.int .i64 0) (.int .i64 0) (.int .i64 0) (.int .i64 0) (.int .i64 0) (.int .i64 0) (.int .i64 0) (.int .i64 0) (.int .i64 0)) w.heap.size zeroN := (zr5).setN zeroN
      obtain ⟨r0, r1, r2, r3, r4, r5, r6, r7, r8, r9, r10⟩ := (zr5).cells
      have rf0 := (zr5).frozen 0
      have rf1 := (zr5).frozen 1
      have rf2 := (zr5).frozen 2
      have rf3 := (zr5).frozen 3
      have rf4 := (zr5).frozen 4
      have rf5 := (zr5).frozen 5
      have rf6 := (zr5).frozen 6
      have rf7 := (zr5).frozen 7
      have rf8 := (zr5).frozen 8
      have rf9 := (zr5).frozen 9
      have rf10 := (zr5).frozen 10
      have rl := (zr5).lt
      go_wp2_with fail
      refine bodyPost_ret (v := .tuple #[ncV zeroN, .int .i64 1]) ?_ rfl ⟨by rw [HC.1, HC.2], ext_setN (x5) (Nat.le_refl _) zeroN⟩
      obtain ⟨q0, q1, q2, q3, q4, q5, q6, q7, q8, q9, q10⟩ := TZ.cells
      clear r0 rf0 r1 rf1 r2 rf2 r3 rf3 r4 rf4 r5 rf5 r6 rf6 r7 rf7 r8 rf8 r9 rf9 r10 rf10 rl
      simp [results, Tryz.results42, go_sem, ncV, q0, q1, q2, q3, q4, q5, q6, q7, q8, q9, q10]
    case pos =>
    have D1 := Lib.hid hds
    rw [hds]
    clear hds
    by_cases h9 : (valN ts (qP 134)).length = 9
    case neg =>
      have HC := HD.out.2.2.1 ts cnt HO.out (xRN_2 h9)
      have hb : ((n6 : Int) != 9) = true := by have := hn6.out; simp; omega
      clear HD h9 hn6
      have TZ : NcAt (set11 w5 w.heap.size (.string ⟨#[]⟩) (.int .i64 0) (.int .i64 0) (.int .i64 0) (.int .i64 0) (.int .i64 0) (.int .i64 0) (.int .i64 0) (.int .i64 0) (.int .i64 0) (.int .i64 0)) w.heap.size zeroN := (zr5).setN zeroN
      obtain ⟨r0, r1, r2, r3, r4, r5, r6, r7, r8, r9, r10⟩ := (zr5).cells
      have rf0 := (zr5).frozen 0
      have rf1 := (zr5).frozen 1
      have rf2 := (zr5).frozen 2
      have rf3 := (zr5).frozen 3
      have rf4 := (zr5).frozen 4
      have rf5 := (zr5).frozen 5
      have rf6 := (zr5).frozen 6
      have rf7 := (zr5).frozen 7
      have rf8 := (zr5).frozen 8
      have rf9 := (zr5).frozen 9
      have rf10 := (zr5).frozen 10
      have rl := (zr5).lt
      go_wp2_with fail
      refine bodyPost_ret (v := .tuple #[ncV zeroN, .int .i64 1]) ?_ rfl ⟨by rw [HC.1, HC.2], ext_setN (x5) (Nat.le_refl _) zeroN⟩
      obtain ⟨q0, q1, q2, q3, q4, q5, q6, q7, q8, q9, q10⟩ := TZ.cells
      clear r0 rf0 r1 rf1 r2 rf2 r3 rf3 r4 rf4 r5 rf5 r6 rf6 r7 rf7 r8 rf8 r9 rf9 r10 rf10 rl
      simp [results, Tryz.results42, go_sem, ncV, q0, q1, q2, q3, q4, q5, q6, q7, q8, q9, q10]
    case pos =>
    obtain rfl : n6 = 9 := by have := hn6.out; omega
    have D2 := Lib.hid h9
    clear h9 hn6
    go_wp2_with fail
    refine (ref29at_any (d := 8) (ts := ts) 129 _ HR5.out).mono ?_
    rintro e w6 ⟨A129, n129, c129, rfl, hn129, r129, b6⟩
    have zr6 := zr5.ext b6
    have x6 := x5.tr b6
    have HR6 := Lib.hid (HR5.out.ext b6)
    have H6 := Lib.hid (H6.out.ext b6)
    have S5 := Lib.hid (S5.out.keep b6)
    clear r129 b6 zr5 x5 HR5
    by_cases hl129 : (valN ts (qP 129)).length = 1
    case neg =>
      have HC := HD.out.2.2.1 ts cnt HO.out (xRN_3 hl129)
      have hb : ((n129 : Int) != 1) = true := by have := hn129.out; simp; omega
      clear HD hl129 hn129
      have TZ : NcAt (set11 w6 w.heap.size (.string ⟨#[]⟩) (.int .i64 0) (.int .i64 0) (.int .i64 0) (.int .i64 0) (.int .i64 0) (.int .i64 0) (.int .i64 0) (.int .i64 0) (.int .i64 0) (.int .i64 0)) w.heap.size zeroN := (zr6).setN zeroN
      obtain ⟨r0, r1, r2, r3, r4, r5, r6, r7, r8, r9, r10⟩ := (zr6).cells
      have rf0 := (zr6).frozen 0
      have rf1 := (zr6).frozen 1
      have rf2 := (zr6).frozen 2
      have rf3 := (zr6).frozen 3
      have rf4 := (zr6).frozen 4
      have rf5 := (zr6).frozen 5
      have rf6 := (zr6).frozen 6
      have rf7 := (zr6).frozen 7
      have rf8 := (zr6).frozen 8
      have rf9 := (zr6).frozen 9
      have rf10 := (zr6).frozen 10
      have rl := (zr6).lt
      go_wp2_with fail
      refine bodyPost_ret (v := .tuple #[ncV zeroN, .int .i64 1]) ?_ rfl ⟨by rw [HC.1, HC.2], ext_setN (x6) (Nat.le_refl _) zeroN⟩
      obtain ⟨q0, q1, q2, q3, q4, q5, q6, q7, q8, q9, q10⟩ := TZ.cells
      clear r0 rf0 r1 rf1 r2 rf2 r3 rf3 r4 rf4 r5 rf5 r6 rf6 r7 rf7 r8 rf8 r9 rf9 r10 rf10 rl
      simp [results, Tryz.results42, go_sem, ncV, q0, q1, q2, q3, q4, q5, q6, q7, q8, q9, q10]
    case pos =>
    obtain rfl : n129 = 1 := by have := hn129.out; omega
    have L129 := Lib.hid hl129
    clear hl129 hn129
    go_wp2_with fail
    refine (ref29at_any (d := 8) (ts := ts) 130 _ HR6.out).mono ?_
    rintro e w7 ⟨A130, n130, c130, rfl, hn130, r130, b7⟩
    have zr7 := zr6.ext b7
    have x7 := x6.tr b7
    have HR7 := Lib.hid (HR6.out.ext b7)
    have H6 := Lib.hid (H6.out.ext b7)
    have S5 := Lib.hid (S5.out.keep b7)
    clear r130 b7 zr6 x6 HR6
    by_cases hl130 : (valN ts (qP 130)).length = 4
    case neg =>
      have HC := HD.out.2.2.1 ts cnt HO.out (xRN_4 hl130)
      have hb : ((n130 : Int) != 4) = true := by have := hn130.out; simp; omega
      clear HD hl130 hn130
      have TZ : NcAt (set11 w7 w.heap.size (.string ⟨#[]⟩) (.int .i64 0) (.int .i64 0) (.int .i64 0) (.int .i64 0) (.int .i64 0) (.int .i64 0) (.int .i64 0) (.int .i64 0) (.int .i64 0) (.int .i64 0)) w.heap.size zeroN := (zr7).setN zeroN
      obtain ⟨r0, r1, r2, r3, r4, r5, r6, r7, r8, r9, r10⟩ := (zr7).cells
      have rf0 := (zr7).frozen 0
      have rf1 := (zr7).frozen 1
      have rf2 := (zr7).frozen 2
      have rf3 := (zr7).frozen 3
      have rf4 := (zr7).frozen 4
      have rf5 := (zr7).frozen 5
      have rf6 := (zr7).frozen 6
      have rf7 := (zr7).frozen 7
      have rf8 := (zr7).frozen 8
      have rf9 := (zr7).frozen 9
      have rf10 := (zr7).frozen 10
      have rl := (zr7).lt
      go_wp2_with fail
      refine bodyPost_ret (v := .tuple #[ncV zeroN, .int .i64 1]) ?_ rfl ⟨by rw [HC.1, HC.2], ext_setN (x7) (Nat.le_refl _) zeroN⟩
      obtain ⟨q0, q1, q2, q3, q4, q5, q6, q7, q8, q9, q10⟩ := TZ.cells
      clear r0 rf0 r1 rf1 r2 rf2 r3 rf3 r4 rf4 r5 rf5 r6 rf6 r7 rf7 r8 rf8 r9 rf9 r10 rf10 rl
      simp [results, Tryz.results42, go_sem, ncV, q0, q1, q2, q3, q4, q5, q6, q7, q8, q9, q10]
    case pos =>
    obtain rfl : n130 = 4 := by have := hn130.out; omega
    have L130 := Lib.hid hl130
    clear hl130 hn130
    go_wp2_with fail
    refine (ref29at_any (d := 8) (ts := ts) 131 _ HR7.out).mono ?_
    rintro e w8 ⟨A131, n131, c131, rfl, hn131, r131, b8⟩
    have zr8 := zr7.ext b8
    have x8 := x7.tr b8
    have HR8 := Lib.hid (HR7.out.ext b8)
    have H6 := Lib.hid (H6.out.ext b8)
    have S5 := Lib.hid (S5.out.keep b8)
    clear r131 b8 zr7 x7 HR7
    by_cases hl131 : (valN ts (qP 131)).length = 4
    case neg =>
      have HC := HD.out.2.2.1 ts cnt HO.out (xRN_5 hl131)
      have hb : ((n131 : Int) != 4) = true := by have := hn131.out; simp; omega
      clear HD hl131 hn131
      have TZ : NcAt (set11 w8 w.heap.size (.string ⟨#[]⟩) (.int .i64 0) (.int .i64 0) (.int .i64 0) (.int .i64 0) (.int .i64 0) (.int .i64 0) (.int .i64 0) (.int .i64 0) (.int .i64 0) (.int .i64 0)) w.heap.size zeroN := (zr8).setN zeroN
      obtain ⟨r0, r1, r2, r3, r4, r5, r6, r7, r8, r9, r10⟩ := (zr8).cells
      have rf0 := (zr8).frozen 0
      have rf1 := (zr8).frozen 1
      have rf2 := (zr8).frozen 2
      have rf3 := (zr8).frozen 3
      have rf4 := (zr8).frozen 4
      have rf5 := (zr8).frozen 5
      have rf6 := (zr8).frozen 6
      have rf7 := (zr8).frozen 7
      have rf8 := (zr8).frozen 8
      have rf9 := (zr8).frozen 9
      have rf10 := (zr8).frozen 10
      have rl := (zr8).lt
      go_wp2_with fail
      refine bodyPost_ret (v := .tuple #[ncV zeroN, .int .i64 1]) ?_ rfl ⟨by rw [HC.1, HC.2], ext_setN (x8) (Nat.le_refl _) zeroN⟩
      obtain ⟨q0, q1, q2, q3, q4, q5, q6, q7, q8, q9, q10⟩ := TZ.cells
      clear r0 rf0 r1 rf1 r2 rf2 r3 rf3 r4 rf4 r5 rf5 r6 rf6 r7 rf7 r8 rf8 r9 rf9 r10 rf10 rl
      simp [results, Tryz.results42, go_sem, ncV, q0, q1, q2, q3, q4, q5, q6, q7, q8, q9, q10]
    case pos =>
    obtain rfl : n131 = 4 := by have := hn131.out; omega
    have L131 := Lib.hid hl131
    clear hl131 hn131
    go_wp2_with fail
    refine (ref29at_any (d := 8) (ts := ts) 132 _ HR8.out).mono ?_
    rintro e w9 ⟨A132, n132, c132, rfl, hn132, r132, b9⟩
    have zr9 := zr8.ext b9
    have x9 := x8.tr b9
    have HR9 := Lib.hid (HR8.out.ext b9)
    have H6 := Lib.hid (H6.out.ext b9)
    have S5 := Lib.hid (S5.out.keep b9)
    clear r132 b9 zr8 x8 HR8
    by_cases hl132 : (valN ts (qP 132)).length = 4
    case neg =>
      have HC := HD.out.2.2.1 ts cnt HO.out (xRN_6 hl132)
      have hb : ((n132 : Int) != 4) = true := by have := hn132.out; simp; omega
      clear HD hl132 hn132
      have TZ : NcAt (set11 w9 w.heap.size (.string ⟨#[]⟩) (.int .i64 0) (.int .i64 0) (.int .i64 0) (.int .i64 0) (.int .i64 0) (.int .i64 0) (.int .i64 0) (.int .i64 0) (.int .i64 0) (.int .i64 0)) w.heap.size zeroN := (zr9).setN zeroN
      obtain ⟨r0, r1, r2, r3, r4, r5, r6, r7, r8, r9, r10⟩ := (zr9).cells
      have rf0 := (zr9).frozen 0
      have rf1 := (zr9).frozen 1
      have rf2 := (zr9).frozen 2
      have rf3 := (zr9).frozen 3
      have rf4 := (zr9).frozen 4
      have rf5 := (zr9).frozen 5
      have rf6 := (zr9).frozen 6
      have rf7 := (zr9).frozen 7
      have rf8 := (zr9).frozen 8
      have rf9 := (zr9).frozen 9
      have rf10 := (zr9).frozen 10
      have rl := (zr9).lt
      go_wp2_with fail
      refine bodyPost_ret (v := .tuple #[ncV zeroN, .int .i64 1]) ?_ rfl ⟨by rw [HC.1, HC.2], ext_setN (x9) (Nat.le_refl _) zeroN⟩
      obtain ⟨q0, q1, q2, q3, q4, q5, q6, q7, q8, q9, q10⟩ := TZ.cells
      clear r0 rf0 r1 rf1 r2 rf2 r3 rf3 r4 rf4 r5 rf5 r6 rf6 r7 rf7 r8 rf8 r9 rf9 r10 rf10 rl
      simp [results, Tryz.results42, go_sem, ncV, q0, q1, q2, q3, q4, q5, q6, q7, q8, q9, q10]
    case pos =>
    obtain rfl : n132 = 4 := by have := hn132.out; omega
    have L132 := Lib.hid hl132
    clear hl132 hn132
    go_wp2_with fail
    refine (ref29at_any (d := 8) (ts := ts) 133 _ HR9.out).mono ?_
    rintro e w10 ⟨A133, n133, c133, rfl, hn133, r133, b10⟩
    have zr10 := zr9.ext b10
    have x10 := x9.tr b10
    have HR10 := Lib.hid (HR9.out.ext b10)
    have H6 := Lib.hid (H6.out.ext b10)
    have S5 := Lib.hid (S5.out.keep b10)
    clear r133 b10 zr9 x9 HR9
    by_cases hl133 : (valN ts (qP 133)).length = 4
    case neg =>
      have HC := HD.out.2.2.1 ts cnt HO.out (xRN_7 hl133)
      have hb : ((n133 : Int) != 4) = true := by have := hn133.out; simp; omega
      clear HD hl133 hn133
      have TZ : NcAt (set11 w10 w.heap.size (.string ⟨#[]⟩) (.int .i64 0) (.int .i64 0) (.int .i64 0) (.int .i64 0) (.int .i64 0) (.int .i64 0) (.int .i64 0) (.int .i64 0) (.int .i64 0) (.int .i64 0)) w.heap.size zeroN := (zr10).setN zeroN
      obtain ⟨r0, r1, r2, r3, r4, r5, r6, r7, r8, r9, r10⟩ := (zr10).cells
      have rf0 := (zr10).frozen 0
      have rf1 := (zr10).frozen 1
      have rf2 := (zr10).frozen 2
      have rf3 := (zr10).frozen 3
      have rf4 := (zr10).frozen 4
      have rf5 := (zr10).frozen 5
      have rf6 := (zr10).frozen 6
      have rf7 := (zr10).frozen 7
      have rf8 := (zr10).frozen 8
      have rf9 := (zr10).frozen 9
      have rf10 := (zr10).frozen 10
      have rl := (zr10).lt
      go_wp2_with fail
      refine bodyPost_ret (v := .tuple #[ncV zeroN, .int .i64 1]) ?_ rfl ⟨by rw [HC.1, HC.2], ext_setN (x10) (Nat.le_refl _) zeroN⟩
      obtain ⟨q0, q1, q2, q3, q4, q5, q6, q7, q8, q9, q10⟩ := TZ.cells
      clear r0 rf0 r1 rf1 r2 rf2 r3 rf3 r4 rf4 r5 rf5 r6 rf6 r7 rf7 r8 rf8 r9 rf9 r10 rf10 rl
      simp [results, Tryz.results42, go_sem, ncV, q0, q1, q2, q3, q4, q5, q6, q7, q8, q9, q10]
    case pos =>
    obtain rfl : n133 = 4 := by have := hn133.out; omega
    have L133 := Lib.hid hl133
    clear hl133 hn133
    have hxr := show xRN ts = _ from if_pos ⟨D1.out, D2.out, L129.out, L130.out, L131.out, L132.out, L133.out⟩
    obtain ⟨A', n', c', e, hn, hnc, hcm, hA⟩ := H6.out.bytes
    injection e with e1 e2 e3
    subst e1 e3
    obtain ⟨db, do_, rfl, hdb, hcell⟩ := hA (by omega)
    have hc3 : ¬ c6 = 3 := by omega
    have hc6 : ¬ c6 = 6 := by omega
    have T1 := Lib.hid (H6.out.take 3 (by omega))
    have T2 := Lib.hid ((H6.out.dropB 3 (by omega)).take 3 (by omega))
    have T3 := Lib.hid (H6.out.dropB 6 (by omega))
    have b3 : 3 ≤ c6 := by omega
    have b6 : 6 ≤ c6 := by omega
    have b9 : 9 ≤ c6 := by omega
    unfold maxLen at hcm
    obtain ⟨c, hcd⟩ : ∃ c : NC, c = ⟨valN ts (qP 19), num (valN ts (qP 129)), num (valN ts (qP 130)), num (valN ts (qP 131)), num (valN ts (qP 132)), num (valN ts (qP 133)), num ((valN ts (qP 134)).take 3), num (((valN ts (qP 134)).drop 3).take 3), num ((valN ts (qP 134)).drop 6), dcE (valN ts qS), dcS (valN ts qS)⟩ := ⟨_, rfl⟩
    have HM := Lib.hid (show smN c by rw [hcd]; exact valN_len (qP 19) 8 ts HS.out)
    have HX := Lib.hid (hxr.trans (congrArg some hcd.symm))
    obtain ⟨s0, s1⟩ : w10.cell? ⟨w4.heap.size, 0, none⟩ = some (.int .i64 (dcE (valN ts qS))) ∧ w10.cell? ⟨w4.heap.size, 1, none⟩ = some (.int .i64 (dcS (valN ts qS))) := ⟨S5.out.c0, S5.out.c1⟩
    have hls := S5.out.lt
    clear hxr hA hcell hn e2 hnc H6 hw5'
    go_wp2_with fail
    refine Gd.wp_region_X 30 (by kernel_rfl) (by kernel_rfl) ?_
    simp only [List.take_succ_cons, List.take_zero, List.drop_succ_cons, List.drop_zero]
    intro wq hw1
    have LL : ∀ m : Lt wq, Ext w10 m.1 := fun m => hw1.tr m.2
    have v1 : ∀ m : Lt wq, m.1.cell? ⟨w4.heap.size, 0, none⟩ = some (.int .i64 (dcE (valN ts qS))) := fun m => ((LL m).cell (p := ⟨w4.heap.size, 0, none⟩) hls).trans s0
    have v2 : ∀ m : Lt wq, m.1.cell? ⟨w4.heap.size, 1, none⟩ = some (.int .i64 (dcS (valN ts qS))) := fun m => ((LL m).cell (p := ⟨w4.heap.size, 1, none⟩) hls).trans s1
    repeat (refine Gd.wpX_pure (by first | exact trivial | exact ⟨_, rfl, rfl, rfl⟩) rfl rfl rfl rfl rfl (fun K hK => ?_); go_big_quiet_op; refine hK _ ?_; clear hK K)
    refine Gd.wpX_callF (by first | exact trivial | exact ⟨_, rfl, rfl, rfl⟩) (RB (valN ts (qP 19))) (stable_RB _) (fun _ => [.slice A n cp, .int .i64 19]) rfl rfl rfl rfl rfl (by kernel_rfl) rfl (fun _ => rfl) (fun m f hf => (ref29at_any (d := 8) 19 m.1 (HR10.out.ext (LL m))).mono fun _ _ h => h.rb) ?_
    simp only [Act.put, List.setIfInBounds_toArray, List.set_cons_zero, List.set_cons_succ]
    refine Gd.wpX_convL (by first | exact trivial | exact ⟨_, rfl, rfl, rfl⟩) (fun v _ => v = .string (bstr (valN ts (qP 19)))) (stable_eq _) (fun f => f 66) rfl rfl rfl rfl rfl (fun f => rfl) (fun m f hf => ⟨_, _, run_strV (hf 66 _ rfl rfl), Below.refl _ _, rfl⟩) ?_
    simp only [Act.put, List.setIfInBounds_toArray, List.set_cons_zero, List.set_cons_succ]
    repeat (refine Gd.wpX_pure (by first | exact trivial | exact ⟨_, rfl, rfl, rfl⟩) rfl rfl rfl rfl rfl (fun K hK => ?_); go_big_quiet_op; refine hK _ ?_; clear hK K)
    refine Gd.wpX_callF (by first | exact trivial | exact ⟨_, rfl, rfl, rfl⟩) (RB (valN ts (qP 129))) (stable_RB _) (fun _ => [.slice A n cp, .int .i64 129]) rfl rfl rfl rfl rfl (by kernel_rfl) rfl (fun _ => rfl) (fun m f hf => (ref29at_any (d := 8) 129 m.1 (HR10.out.ext (LL m))).mono fun _ _ h => h.rb) ?_
    simp only [Act.put, List.setIfInBounds_toArray, List.set_cons_zero, List.set_cons_succ]
    refine Gd.wpX_callUse (by first | exact trivial | exact ⟨_, rfl, rfl, rfl⟩) 69 (RB (valN ts (qP 129))) (.int .i64 (num (valN ts (qP 129)))) (fun u => [u]) rfl rfl rfl rfl rfl rfl rfl (fun u => rfl) (by kernel_rfl) (fun u => rfl) (fun m u hu => (ref24num_any m.1 hu (by rw [L129.out]; omega)).mono fun _ _ ⟨h1, h2⟩ => ⟨h1, h2 ▸ Below.refl _ _⟩) ?_
    simp only [Act.put, List.setIfInBounds_toArray, List.set_cons_zero, List.set_cons_succ]
    repeat (refine Gd.wpX_pure (by first | exact trivial | exact ⟨_, rfl, rfl, rfl⟩) rfl rfl rfl rfl rfl (fun K hK => ?_); go_big_quiet_op; refine hK _ ?_; clear hK K)
    refine Gd.wpX_callF (by first | exact trivial | exact ⟨_, rfl, rfl, rfl⟩) (RB (valN ts (qP 130))) (stable_RB _) (fun _ => [.slice A n cp, .int .i64 130]) rfl rfl rfl rfl rfl (by kernel_rfl) rfl (fun _ => rfl) (fun m f hf => (ref29at_any (d := 8) 130 m.1 (HR10.out.ext (LL m))).mono fun _ _ h => h.rb) ?_
    simp only [Act.put, List.setIfInBounds_toArray, List.set_cons_zero, List.set_cons_succ]
    refine Gd.wpX_callUse (by first | exact trivial | exact ⟨_, rfl, rfl, rfl⟩) 72 (RB (valN ts (qP 130))) (.int .i64 (num (valN ts (qP 130)))) (fun u => [u]) rfl rfl rfl rfl rfl rfl rfl (fun u => rfl) (by kernel_rfl) (fun u => rfl) (fun m u hu => (ref24num_any m.1 hu (by rw [L130.out]; omega)).mono fun _ _ ⟨h1, h2⟩ => ⟨h1, h2 ▸ Below.refl _ _⟩) ?_
    simp only [Act.put, List.setIfInBounds_toArray, List.set_cons_zero, List.set_cons_succ]
    repeat (refine Gd.wpX_pure (by first | exact trivial | exact ⟨_, rfl, rfl, rfl⟩) rfl rfl rfl rfl rfl (fun K hK => ?_); go_big_quiet_op; refine hK _ ?_; clear hK K)
    refine Gd.wpX_callF (by first | exact trivial | exact ⟨_, rfl, rfl, rfl⟩) (RB (valN ts (qP 131))) (stable_RB _) (fun _ => [.slice A n cp, .int .i64 131]) rfl rfl rfl rfl rfl (by kernel_rfl) rfl (fun _ => rfl) (fun m f hf => (ref29at_any (d := 8) 131 m.1 (HR10.out.ext (LL m))).mono fun _ _ h => h.rb) ?_
    simp only [Act.put, List.setIfInBounds_toArray, List.set_cons_zero, List.set_cons_succ]
    refine Gd.wpX_callUse (by first | exact trivial | exact ⟨_, rfl, rfl, rfl⟩) 75 (RB (valN ts (qP 131))) (.int .i64 (num (valN ts (qP 131)))) (fun u => [u]) rfl rfl rfl rfl rfl rfl rfl (fun u => rfl) (by kernel_rfl) (fun u => rfl) (fun m u hu => (ref24num_any m.1 hu (by rw [L131.out]; omega)).mono fun _ _ ⟨h1, h2⟩ => ⟨h1, h2 ▸ Below.refl _ _⟩) ?_
    simp only [Act.put, List.setIfInBounds_toArray, List.set_cons_zero, List.set_cons_succ]
    repeat (refine Gd.wpX_pure (by first | exact trivial | exact ⟨_, rfl, rfl, rfl⟩) rfl rfl rfl rfl rfl (fun K hK => ?_); go_big_quiet_op; refine hK _ ?_; clear hK K)
    refine Gd.wpX_callF (by first | exact trivial | exact ⟨_, rfl, rfl, rfl⟩) (RB (valN ts (qP 132))) (stable_RB _) (fun _ => [.slice A n cp, .int .i64 132]) rfl rfl rfl rfl rfl (by kernel_rfl) rfl (fun _ => rfl) (fun m f hf => (ref29at_any (d := 8) 132 m.1 (HR10.out.ext (LL m))).mono fun _ _ h => h.rb) ?_
    simp only [Act.put, List.setIfInBounds_toArray, List.set_cons_zero, List.set_cons_succ]
    refine Gd.wpX_callUse (by first | exact trivial | exact ⟨_, rfl, rfl, rfl⟩) 78 (RB (valN ts (qP 132))) (.int .i64 (num (valN ts (qP 132)))) (fun u => [u]) rfl rfl rfl rfl rfl rfl rfl (fun u => rfl) (by kernel_rfl) (fun u => rfl) (fun m u hu => (ref24num_any m.1 hu (by rw [L132.out]; omega)).mono fun _ _ ⟨h1, h2⟩ => ⟨h1, h2 ▸ Below.refl _ _⟩) ?_
    simp only [Act.put, List.setIfInBounds_toArray, List.set_cons_zero, List.set_cons_succ]
    repeat (refine Gd.wpX_pure (by first | exact trivial | exact ⟨_, rfl, rfl, rfl⟩) rfl rfl rfl rfl rfl (fun K hK => ?_); go_big_quiet_op; refine hK _ ?_; clear hK K)
    refine Gd.wpX_callF (by first | exact trivial | exact ⟨_, rfl, rfl, rfl⟩) (RB (valN ts (qP 133))) (stable_RB _) (fun _ => [.slice A n cp, .int .i64 133]) rfl rfl rfl rfl rfl (by kernel_rfl) rfl (fun _ => rfl) (fun m f hf => (ref29at_any (d := 8) 133 m.1 (HR10.out.ext (LL m))).mono fun _ _ h => h.rb) ?_
    simp only [Act.put, List.setIfInBounds_toArray, List.set_cons_zero, List.set_cons_succ]
    refine Gd.wpX_callUse (by first | exact trivial | exact ⟨_, rfl, rfl, rfl⟩) 81 (RB (valN ts (qP 133))) (.int .i64 (num (valN ts (qP 133)))) (fun u => [u]) rfl rfl rfl rfl rfl rfl rfl (fun u => rfl) (by kernel_rfl) (fun u => rfl) (fun m u hu => (ref24num_any m.1 hu (by rw [L133.out]; omega)).mono fun _ _ ⟨h1, h2⟩ => ⟨h1, h2 ▸ Below.refl _ _⟩) ?_
    simp only [Act.put, List.setIfInBounds_toArray, List.set_cons_zero, List.set_cons_succ]
    repeat (refine Gd.wpX_pure (by first | exact trivial | exact ⟨_, rfl, rfl, rfl⟩) rfl rfl rfl rfl rfl (fun K hK => ?_); go_big_quiet_op; refine hK _ ?_; clear hK K)
    refine Gd.wpX_callFn (by first | exact trivial | exact ⟨_, rfl, rfl, rfl⟩) (.int .i64 (num ((valN ts (qP 134)).take 3))) (args := [.slice (some ⟨db, do_, none⟩) 3 c6]) rfl rfl rfl rfl (by kernel_rfl) rfl rfl (fun m => (ref24num_any m.1 (T1.out.ext (LL m)) (by simp only [List.length_take, D2.out]; omega)).mono fun _ _ ⟨h1, h2⟩ => ⟨h1, h2 ▸ Below.refl _ _⟩) ?_
    simp only [Act.put, List.setIfInBounds_toArray, List.set_cons_zero, List.set_cons_succ]
    repeat (refine Gd.wpX_pure (by first | exact trivial | exact ⟨_, rfl, rfl, rfl⟩) rfl rfl rfl rfl rfl (fun K hK => ?_); go_big_quiet_op; refine hK _ ?_; clear hK K)
    refine Gd.wpX_callFn (by first | exact trivial | exact ⟨_, rfl, rfl, rfl⟩) (.int .i64 (num (((valN ts (qP 134)).drop 3).take 3))) (args := [.slice (some ⟨db, do_ + 3, none⟩) 3 (c6 - 3)]) rfl rfl rfl rfl (by kernel_rfl) rfl rfl (fun m => (ref24num_any m.1 (T2.out.ext (LL m)) (by simp only [List.length_take, List.length_drop, D2.out]; omega)).mono fun _ _ ⟨h1, h2⟩ => ⟨h1, h2 ▸ Below.refl _ _⟩) ?_
    simp only [Act.put, List.setIfInBounds_toArray, List.set_cons_zero, List.set_cons_succ]
    repeat (refine Gd.wpX_pure (by first | exact trivial | exact ⟨_, rfl, rfl, rfl⟩) rfl rfl rfl rfl rfl (fun K hK => ?_); go_big_quiet_op; refine hK _ ?_; clear hK K)
    refine Gd.wpX_callFn (by first | exact trivial | exact ⟨_, rfl, rfl, rfl⟩) (.int .i64 (num ((valN ts (qP 134)).drop 6))) (args := [.slice (some ⟨db, do_ + 6, none⟩) 3 (c6 - 6)]) rfl rfl rfl rfl (by kernel_rfl) rfl rfl (fun m => (ref24num_any m.1 (T3.out.ext (LL m)) (by simp only [List.length_drop, D2.out]; omega)).mono fun _ _ ⟨h1, h2⟩ => ⟨h1, h2 ▸ Below.refl _ _⟩) ?_
    simp only [Act.put, List.setIfInBounds_toArray, List.set_cons_zero, List.set_cons_succ]
    repeat (refine Gd.wpX_pure (by first | exact trivial | exact ⟨_, rfl, rfl, rfl⟩) rfl rfl rfl rfl rfl (fun K hK => ?_); go_big_quiet_op; refine hK _ ?_; clear hK K)
    refine Gd.wpX_buildL (by first | exact trivial | exact ⟨_, rfl, rfl, rfl⟩) (fun v _ => v = ncV c) (stable_eq _) (fun f => [(0, f 67), (1, .int .i64 (num (valN ts (qP 129)))), (2, .int .i64 (num (valN ts (qP 130)))), (3, .int .i64 (num (valN ts (qP 131)))), (4, .int .i64 (num (valN ts (qP 132)))), (5, .int .i64 (num (valN ts (qP 133)))), (6, .int .i64 (num ((valN ts (qP 134)).take 3))), (7, .int .i64 (num (((valN ts (qP 134)).drop 3).take 3))), (8, .int .i64 (num ((valN ts (qP 134)).drop 6))), (9, .agg #[.int .i64 (dcE (valN ts qS)), .int .i64 (dcS (valN ts qS))])]) rfl rfl rfl rfl rfl (fun f => rfl) (fun m f hf => by rw [hf 67 _ rfl rfl]; exact ⟨_, _, run_buildN10 m.1 _ _ _ _ _ _ _ _ _ _ _, Below.refl _ _, by rw [hcd]; rfl⟩) ?_
    simp only [Act.put, List.setIfInBounds_toArray, List.set_cons_zero, List.set_cons_succ]
    refine Gd.wpX_allocNc (by first | exact trivial | exact ⟨_, rfl, rfl, rfl⟩) rfl rfl rfl rfl ?_
    simp only [Act.put, List.setIfInBounds_toArray, List.set_cons_zero, List.set_cons_succ]
    refine Gd.wpX_endL (fun m f hf => ?_)
    have e93 := hf 93 _ rfl
    obtain ⟨cb, e8, hcb, TZ0⟩ := hf 8 _ rfl
    simp only [fillH]
    simp only [Act.put, List.setIfInBounds_toArray, List.set_cons_zero, List.set_cons_succ]
    rw [e93, e8]
    have Lm := LL m
    have hw15 := hw1.size
    obtain ⟨w11, hw11⟩ := m
    have Lm : Ext w10 w11 := Lm
    generalize f 66 = f66 at *
    generalize f 67 = f67 at *
    generalize f 69 = f69 at *
    generalize f 72 = f72 at *
    generalize f 75 = f75 at *
    generalize f 78 = f78 at *
    generalize f 81 = f81 at *
    clear LL v1 v2 hf e93 e8 s0 s1 hls S5 T1 T2 T3
    have TZ0 : NcAt w11 cb zeroN := TZ0
    have x11 := x10.tr Lm
    have zr11 := zr10.ext Lm
    have hcb5 : w10.heap.size ≤ cb := Nat.le_trans hw15 hcb
    have hxw : w.heap.size ≤ cb := Nat.le_trans x10.size hcb5
    have hrw : w.heap.size ≠ cb := by have := zr10.lt; omega
    obtain ⟨w12, hw12, x12, TC12⟩ : ∃ w12, w12 = (((((((((((w11.setCell ⟨cb, 0, none⟩ (.string (bstr c.st))).setCell ⟨cb, 1, none⟩ (.int .i64 c.kind)).setCell ⟨cb, 2, none⟩ (.int .i64 c.num)).setCell ⟨cb, 3, none⟩ (.int .i64 c.iss)).setCell ⟨cb, 4, none⟩ (.int .i64 c.own)).setCell ⟨cb, 5, none⟩ (.int .i64 c.key)).setCell ⟨cb, 6, none⟩ (.int .i64 c.fr)).setCell ⟨cb, 7, none⟩ (.int .i64 c.un)).setCell ⟨cb, 8, none⟩ (.int .i64 c.to)).setCell ⟨cb, 9, none⟩ (.int .i64 c.e)).setCell ⟨cb, 10, none⟩ (.int .i64 c.s)) ∧ Ext w w12 ∧ NcAt w12 cb c :=
      ⟨_, rfl, ext_setN x11 hxw c, TZ0.setN c⟩
    have zr12 : NcAt w12 w.heap.size zeroN := by
      rw [hw12]
      exact (((((((((((zr11).other hrw).other hrw).other hrw).other hrw).other hrw).other hrw).other hrw).other hrw).other hrw).other hrw).other hrw
    obtain ⟨r0, r1, r2, r3, r4, r5, r6, r7, r8, r9, r10⟩ := (TZ0).cells
    have rf0 := (TZ0).frozen 0
    have rf1 := (TZ0).frozen 1
    have rf2 := (TZ0).frozen 2
    have rf3 := (TZ0).frozen 3
    have rf4 := (TZ0).frozen 4
    have rf5 := (TZ0).frozen 5
    have rf6 := (TZ0).frozen 6
    have rf7 := (TZ0).frozen 7
    have rf8 := (TZ0).frozen 8
    have rf9 := (TZ0).frozen 9
    have rf10 := (TZ0).frozen 10
    have rl := (TZ0).lt
    clear x11 zr11 hcd x10 zr10
    unfold ncV
    show wpList _ _ _ _ _ _
    go_wp2_with fail
    rw [← hw12]
    clear hw12
    clear r0 rf0 r1 rf1 r2 rf2 r3 rf3 r4 rf4 r5 rf5 r6 rf6 r7 rf7 r8 rf8 r9 rf9 r10 rf10 rl
    clear TZ0
    refine (nrefencode_any c w12 HM.out).mono ?_
    rintro e w13 ⟨A13, n13, c13, rfl, hn13, r13, b13⟩
    have x13 := x12.tr b13
    have TC13 := TC12.ext b13
    have zr13 := zr12.ext b13
    have hn13' : n13 = (ecBN c).length := hn13.out
    subst hn13'
    clear x12 TC12 zr12 b13
    by_cases hec : ecKN c = 0
    case neg =>
      have HC := HD.out.2.1 ts cnt c HO.out HX.out (fun q => hec q.1)
      have hb : (ecKN c != 0) = true := by simpa using hec
      clear HD hec hn13 r13
      have TZ : NcAt (set11 w13 w.heap.size (.string ⟨#[]⟩) (.int .i64 0) (.int .i64 0) (.int .i64 0) (.int .i64 0) (.int .i64 0) (.int .i64 0) (.int .i64 0) (.int .i64 0) (.int .i64 0) (.int .i64 0)) w.heap.size zeroN := (zr13).setN zeroN
      obtain ⟨r0, r1, r2, r3, r4, r5, r6, r7, r8, r9, r10⟩ := (zr13).cells
      have rf0 := (zr13).frozen 0
      have rf1 := (zr13).frozen 1
      have rf2 := (zr13).frozen 2
      have rf3 := (zr13).frozen 3
      have rf4 := (zr13).frozen 4
      have rf5 := (zr13).frozen 5
      have rf6 := (zr13).frozen 6
      have rf7 := (zr13).frozen 7
      have rf8 := (zr13).frozen 8
      have rf9 := (zr13).frozen 9
      have rf10 := (zr13).frozen 10
      have rl := (zr13).lt
      go_wp2_with fail
      refine bodyPost_ret (v := .tuple #[ncV zeroN, .int .i64 1]) ?_ rfl ⟨by rw [HC.1, HC.2], ext_setN (x13) (Nat.le_refl _) zeroN⟩
      obtain ⟨q0, q1, q2, q3, q4, q5, q6, q7, q8, q9, q10⟩ := TZ.cells
      clear r0 rf0 r1 rf1 r2 rf2 r3 rf3 r4 rf4 r5 rf5 r6 rf6 r7 rf7 r8 rf8 r9 rf9 r10 rf10 rl
      simp [results, Tryz.results42, go_sem, ncV, q0, q1, q2, q3, q4, q5, q6, q7, q8, q9, q10]
    case pos =>
      have HE := Lib.hid hec
      rw [hec]
      have s1 := run_strB r13
      have s2 := run_strB (HA.out.ext x13)
      clear hec r13 hn13
      by_cases hsm : ecBN c = l
      case neg =>
        have HC := HD.out.2.1 ts cnt c HO.out HX.out (fun q => hsm q.2)
        have hse : (ecBN c == l) = false := by simpa using hsm
        clear HD
        have TZ : NcAt (set11 w13 w.heap.size (.string ⟨#[]⟩) (.int .i64 0) (.int .i64 0) (.int .i64 0) (.int .i64 0) (.int .i64 0) (.int .i64 0) (.int .i64 0) (.int .i64 0) (.int .i64 0) (.int .i64 0)) w.heap.size zeroN := (zr13).setN zeroN
        obtain ⟨r0, r1, r2, r3, r4, r5, r6, r7, r8, r9, r10⟩ := (zr13).cells
        have rf0 := (zr13).frozen 0
        have rf1 := (zr13).frozen 1
        have rf2 := (zr13).frozen 2
        have rf3 := (zr13).frozen 3
        have rf4 := (zr13).frozen 4
        have rf5 := (zr13).frozen 5
        have rf6 := (zr13).frozen 6
        have rf7 := (zr13).frozen 7
        have rf8 := (zr13).frozen 8
        have rf9 := (zr13).frozen 9
        have rf10 := (zr13).frozen 10
        have rl := (zr13).lt
        go_wp2_with fail
        refine bodyPost_ret (v := .tuple #[ncV zeroN, .int .i64 1]) ?_ rfl ⟨by rw [HC.1, HC.2], ext_setN (x13) (Nat.le_refl _) zeroN⟩
        obtain ⟨q0, q1, q2, q3, q4, q5, q6, q7, q8, q9, q10⟩ := TZ.cells
        clear r0 rf0 r1 rf1 r2 rf2 r3 rf3 r4 rf4 r5 rf5 r6 rf6 r7 rf7 r8 rf8 r9 rf9 r10 rf10 rl
        simp [results, Tryz.results42, go_sem, ncV, q0, q1, q2, q3, q4, q5, q6, q7, q8, q9, q10]
      case pos =>
        have HC := HD.out.1 ts cnt c HO.out HX.out HE.out hsm
        have TZ : NcAt (set11 w13 w.heap.size (.string (bstr c.st)) (.int .i64 c.kind) (.int .i64 c.num) (.int .i64 c.iss) (.int .i64 c.own) (.int .i64 c.key) (.int .i64 c.fr) (.int .i64 c.un) (.int .i64 c.to) (.int .i64 c.e) (.int .i64 c.s)) w.heap.size c := zr13.setN c
        rw [hsm] at s1
        obtain ⟨p0, p1, p2, p3, p4, p5, p6, p7, p8, p9, p10⟩ := (TC13).cells
        have pf0 := (TC13).frozen 0
        have pf1 := (TC13).frozen 1
        have pf2 := (TC13).frozen 2
        have pf3 := (TC13).frozen 3
        have pf4 := (TC13).frozen 4
        have pf5 := (TC13).frozen 5
        have pf6 := (TC13).frozen 6
        have pf7 := (TC13).frozen 7
        have pf8 := (TC13).frozen 8
        have pf9 := (TC13).frozen 9
        have pf10 := (TC13).frozen 10
        have pl := (TC13).lt
        obtain ⟨r0, r1, r2, r3, r4, r5, r6, r7, r8, r9, r10⟩ := (zr13).cells
        have rf0 := (zr13).frozen 0
        have rf1 := (zr13).frozen 1
        have rf2 := (zr13).frozen 2
        have rf3 := (zr13).frozen 3
        have rf4 := (zr13).frozen 4
        have rf5 := (zr13).frozen 5
        have rf6 := (zr13).frozen 6
        have rf7 := (zr13).frozen 7
        have rf8 := (zr13).frozen 8
        have rf9 := (zr13).frozen 9
        have rf10 := (zr13).frozen 10
        have rl := (zr13).lt
        clear HD
        go_wp2_with fail
        refine bodyPost_ret (v := .tuple #[ncV c, .int .i64 0]) ?_ rfl ⟨by rw [HC.1, HC.2], ext_setN x13 (Nat.le_refl _) c⟩
        obtain ⟨q0, q1, q2, q3, q4, q5, q6, q7, q8, q9, q10⟩ := TZ.cells
        clear r0 rf0 r1 rf1 r2 rf2 r3 rf3 r4 rf4 r5 rf5 r6 rf6 r7 rf7 r8 rf8 r9 rf9 r10 rf10 rl
        clear p0 pf0 p1 pf1 p2 pf2 p3 pf3 p4 pf4 p5 pf5 p6 pf6 p7 pf7 p8 pf8 p9 pf9 p10 pf10 pl
        simp [results, Tryz.results42, go_sem, ncV, q0, q1, q2, q3, q4, q5, q6, q7, q8, q9, q10]
end Go.Proofs.YteilglpdmfiinaaGreatDoor

namespace Go.Proofs.YteilglpdmfiinaaGreatDoor
open Go.RowKit
set_option linter.unusedVariables false
set_option maxRecDepth 100000

def utoN : List UInt8 := [85, 84, 79]
def awN (p : Int) : NC := ⟨utoN, 1, 1, 1, 1, p, 10, 20, 30, 0, 0⟩
theorem state_uto : stateP utoN := by decide
theorem ck_awN {p : Int} (h : isElem p = true) : ckN (awN p) = 0 :=
  ckN_yes state_uto (by show ¬ ((1 : Int) < 1 ∨ 4 < (1 : Int)); omega) (by show numsP 1 1 1 1; decide) h (by show (0 : Int) ≤ 10 ∧ (10 : Int) ≤ 20 ∧ (20 : Int) ≤ 30 ∧ (30 : Int) ≤ 73048; omega)
theorem onN_upd (c : NC) (e s day : Int) : onN (updN c e s) day = onN c day := rfl
theorem rtN_root {c : NC} (e s : Int) (h : c.kind = 1) : rtN (updN c e s) = vfN c.key (updN c e s) := if_pos h
theorem on_early {c : NC} {day : Int} (h : ckN c = 0) (hd : day < c.fr) : onN c day = 64 := by unfold onN; rw [if_pos h, if_pos hd]
theorem on_late {c : NC} {day : Int} (h : ckN c = 0) (h0 : ¬ day < c.fr) (hd : c.to < day) : onN c day = 63 := by unfold onN; rw [if_pos h, if_neg h0, if_pos hd]
theorem on_good {c : NC} {day : Int} (h : ckN c = 0) (h0 : ¬ day < c.fr) (hd : ¬ c.to < day) : onN c day = 0 := by unfold onN; rw [if_pos h, if_neg h0, if_neg hd]
theorem aw_facts {k p : Int} (hk : inB 1 1073741789 k = true) (hp : p = pw 4 k) (he : isElem p = true) : rtN (isCN k (awN p)) = true ∧ onN (isCN k (awN p)) 30 = 0 ∧ onN (isCN k (awN p)) 31 = 63 ∧ onN (isCN k (awN p)) 9 = 64 := by
  have hck := ck_awN he
  have h := vfN_issue hk hck
  rw [isCN_in hk hck] at h ⊢
  generalize sigE k (bodyNB (awN p)) = e at *
  generalize sigS k (bodyNB (awN p)) = s at *
  rw [onN_upd, onN_upd, onN_upd, rtN_root e s (show (awN p).kind = 1 from rfl), show (awN p).key = p from rfl]
  rw [← hp] at h
  exact ⟨h, on_good hck (by show ¬ (30 : Int) < 10; omega) (by show ¬ (30 : Int) < 30; omega), on_late hck (by show ¬ (31 : Int) < 10; omega) (by show (30 : Int) < 31; omega), on_early hck (by show (9 : Int) < 10; omega)⟩
set_option maxHeartbeats 4000000 in
theorem awake29_core (k p : Int) (hk : inB 1 1073741789 k = true) (hp : p = pw 4 k) (he : isElem p = true)
    (F : ∀ w : World, Calls Tryz.prog 90 #[.int .i64 12] w fun e w' => e = .returned (.tuple #[.int .i64 k, .int .i64 p]) ∧ w = w')
    (w : World) (E : KTab w 1) : Calls Tryz.prog 40 #[] w (RetQ w (.bool true)) := by
  have hck := ck_awN he
  have hgi : ∀ W : World, Ext w W → Calls Tryz.prog 43 #[.int .i64 k, ncV (awN p)] W (RetQ W (.tuple #[ncV (isCN k (awN p)), .int .i64 0])) := fun W x => by
    have h := nissue_any k (awN p) W (sm_ofN hck) (E.below x)
    rwa [isKN_in hk hck] at h
  have hv := validN_issue hk hck
  obtain ⟨h1, o1, o2, o3⟩ := aw_facts hk hp he
  generalize isCN k (awN p) = c1 at *
  have hd := dtN_of hv
  have hek := ecKN_valid.2 hv
  have hsm := sm_ofN hv.1
  have hln := ecBN_len c1
  have HI := Lib.hid hgi
  have HD := Lib.hid hd
  have H1 := Lib.hid h1
  have O1 := Lib.hid o1
  have O2 := Lib.hid o2
  have O3 := Lib.hid o3
  have HEK := Lib.hid hek
  clear hgi hd h1 hv hp he hck hk o1 o2 o3 hek
  go_enter Tryz.func40, Tryz.ntmps40
  go_wp2_with fail
  refine (F w).mono ?_
  rintro e w' ⟨rfl, rfl⟩
  clear F
  go_wp2_with fail
  refine (HI.out _ (Below.refl _ _)).mono ?_
  rintro e w1 ⟨rfl, b1⟩
  obtain ⟨wa1, hwb1, ea1, TA1⟩ := nzero_alloc w1
  have hwa1 := hwb1.symm
  clear hwb1
  obtain ⟨wc1, hwc1, ec1, TC1⟩ : ∃ wc, wc = (((((((((((wa1.setCell ⟨w1.heap.size, 0, none⟩ (.string (bstr c1.st))).setCell ⟨w1.heap.size, 1, none⟩ (.int .i64 c1.kind)).setCell ⟨w1.heap.size, 2, none⟩ (.int .i64 c1.num)).setCell ⟨w1.heap.size, 3, none⟩ (.int .i64 c1.iss)).setCell ⟨w1.heap.size, 4, none⟩ (.int .i64 c1.own)).setCell ⟨w1.heap.size, 5, none⟩ (.int .i64 c1.key)).setCell ⟨w1.heap.size, 6, none⟩ (.int .i64 c1.fr)).setCell ⟨w1.heap.size, 7, none⟩ (.int .i64 c1.un)).setCell ⟨w1.heap.size, 8, none⟩ (.int .i64 c1.to)).setCell ⟨w1.heap.size, 9, none⟩ (.int .i64 c1.e)).setCell ⟨w1.heap.size, 10, none⟩ (.int .i64 c1.s)) ∧ Ext w1 wc ∧ NcAt wc w1.heap.size c1 := ⟨_, rfl, ext_setN ea1 (Nat.le_refl _) c1, TA1.setN c1⟩
  have HZ1 := Lib.hid (show wc1.heap.size = wa1.heap.size by rw [hwc1]; simp)
  have hla1 := TA1.lt
  obtain ⟨ra0, ra1, ra2, ra3, ra4, ra5, ra6, ra7, ra8, ra9, ra10⟩ := TA1.cells
  have ga0 := TA1.frozen 0
  have ga1 := TA1.frozen 1
  have ga2 := TA1.frozen 2
  have ga3 := TA1.frozen 3
  have ga4 := TA1.frozen 4
  have ga5 := TA1.frozen 5
  have ga6 := TA1.frozen 6
  have ga7 := TA1.frozen 7
  have ga8 := TA1.frozen 8
  have ga9 := TA1.frozen 9
  have ga10 := TA1.frozen 10
  clear ea1
  unfold ncV
  go_wp2_with fail
  rw [← hwc1]
  clear hwc1 hwa1 hla1 TA1 ra0 ga0 ra1 ga1 ra2 ga2 ra3 ga3 ra4 ga4 ra5 ga5 ra6 ga6 ra7 ga7 ra8 ga8 ra9 ga9 ra10 ga10
  obtain ⟨p0, p1, p2, p3, p4, p5, p6, p7, p8, p9, p10⟩ := (TC1).cells
  have pf0 := (TC1).frozen 0
  have pf1 := (TC1).frozen 1
  have pf2 := (TC1).frozen 2
  have pf3 := (TC1).frozen 3
  have pf4 := (TC1).frozen 4
  have pf5 := (TC1).frozen 5
  have pf6 := (TC1).frozen 6
  have pf7 := (TC1).frozen 7
  have pf8 := (TC1).frozen 8
  have pf9 := (TC1).frozen 9
  have pf10 := (TC1).frozen 10
  have pl := (TC1).lt
  go_wp2_with fail
  refine (nencode_any c1 wc1 hsm).mono ?_
  rintro e w2 ⟨A2, n2, c2, rfl, hn2, r2, b2⟩
  have x2 := b1.tr (ec1.tr b2)
  have T2 := TC1.ext b2
  rw [HEK.out]
  clear ec1 HZ1
  clear p0 pf0 p1 pf1 p2 pf2 p3 pf3 p4 pf4 p5 pf5 p6 pf6 p7 pf7 p8 pf8 p9 pf9 p10 pf10 pl
  clear TC1
  go_wp2_with fail
  refine (ndecode_any _ r2 (by omega)).mono ?_
  rintro e w3 ⟨rfl, b3⟩
  have x3 := x2.tr b3
  have T3 := T2.ext b3
  rw [HD.out.1, HD.out.2]
  clear r2 hn2 T2 hln
  obtain ⟨wa2, hwb2, ea2, TA2⟩ := nzero_alloc w3
  have hwa2 := hwb2.symm
  clear hwb2
  obtain ⟨wc2, hwc2, ec2, TC2⟩ : ∃ wc, wc = (((((((((((wa2.setCell ⟨w3.heap.size, 0, none⟩ (.string (bstr c1.st))).setCell ⟨w3.heap.size, 1, none⟩ (.int .i64 c1.kind)).setCell ⟨w3.heap.size, 2, none⟩ (.int .i64 c1.num)).setCell ⟨w3.heap.size, 3, none⟩ (.int .i64 c1.iss)).setCell ⟨w3.heap.size, 4, none⟩ (.int .i64 c1.own)).setCell ⟨w3.heap.size, 5, none⟩ (.int .i64 c1.key)).setCell ⟨w3.heap.size, 6, none⟩ (.int .i64 c1.fr)).setCell ⟨w3.heap.size, 7, none⟩ (.int .i64 c1.un)).setCell ⟨w3.heap.size, 8, none⟩ (.int .i64 c1.to)).setCell ⟨w3.heap.size, 9, none⟩ (.int .i64 c1.e)).setCell ⟨w3.heap.size, 10, none⟩ (.int .i64 c1.s)) ∧ Ext w3 wc ∧ NcAt wc w3.heap.size c1 := ⟨_, rfl, ext_setN ea2 (Nat.le_refl _) c1, TA2.setN c1⟩
  have HZ2 := Lib.hid (show wc2.heap.size = wa2.heap.size by rw [hwc2]; simp)
  have hla2 := TA2.lt
  obtain ⟨ra0, ra1, ra2, ra3, ra4, ra5, ra6, ra7, ra8, ra9, ra10⟩ := TA2.cells
  have ga0 := TA2.frozen 0
  have ga1 := TA2.frozen 1
  have ga2 := TA2.frozen 2
  have ga3 := TA2.frozen 3
  have ga4 := TA2.frozen 4
  have ga5 := TA2.frozen 5
  have ga6 := TA2.frozen 6
  have ga7 := TA2.frozen 7
  have ga8 := TA2.frozen 8
  have ga9 := TA2.frozen 9
  have ga10 := TA2.frozen 10
  clear ea2
  unfold ncV
  go_upto_region 5 with fail
  rw [← hwc2]
  clear hwc2 hwa2 hla2 TA2 ra0 ga0 ra1 ga1 ra2 ga2 ra3 ga3 ra4 ga4 ra5 ga5 ra6 ga6 ra7 ga7 ra8 ga8 ra9 ga9 ra10 ga10
  have T4 := T3.ext ec2
  have x4 := x3.tr ec2
  have KD := Lib.hid (fun W (x : Ext wc2 W) => E.below (x4.tr x))
  clear HZ2 T3
  obtain ⟨p0, p1, p2, p3, p4, p5, p6, p7, p8, p9, p10⟩ := (T4).cells
  have pf0 := (T4).frozen 0
  have pf1 := (T4).frozen 1
  have pf2 := (T4).frozen 2
  have pf3 := (T4).frozen 3
  have pf4 := (T4).frozen 4
  have pf5 := (T4).frozen 5
  have pf6 := (T4).frozen 6
  have pf7 := (T4).frozen 7
  have pf8 := (T4).frozen 8
  have pf9 := (T4).frozen 9
  have pf10 := (T4).frozen 10
  have pl := (T4).lt
  obtain ⟨q0, q1, q2, q3, q4, q5, q6, q7, q8, q9, q10⟩ := (TC2).cells
  have qf0 := (TC2).frozen 0
  have qf1 := (TC2).frozen 1
  have qf2 := (TC2).frozen 2
  have qf3 := (TC2).frozen 3
  have qf4 := (TC2).frozen 4
  have qf5 := (TC2).frozen 5
  have qf6 := (TC2).frozen 6
  have qf7 := (TC2).frozen 7
  have qf8 := (TC2).frozen 8
  have qf9 := (TC2).frozen 9
  have qf10 := (TC2).frozen 10
  have ql := (TC2).lt
  go_wp2_with fail
  refine (nationalcert_root c1 _ hsm (KD.out _ (Below.refl _ _))).mono ?_
  rintro e w5 ⟨rfl, b5⟩
  rw [H1.out]
  have T5 := T4.ext b5
  clear p0 pf0 p1 pf1 p2 pf2 p3 pf3 p4 pf4 p5 pf5 p6 pf6 p7 pf7 p8 pf8 p9 pf9 p10 pf10 pl
  clear q0 qf0 q1 qf1 q2 qf2 q3 qf3 q4 qf4 q5 qf5 q6 qf6 q7 qf7 q8 qf8 q9 qf9 q10 qf10 ql
  clear T4 TC2
  obtain ⟨p0, p1, p2, p3, p4, p5, p6, p7, p8, p9, p10⟩ := (T5).cells
  have pf0 := (T5).frozen 0
  have pf1 := (T5).frozen 1
  have pf2 := (T5).frozen 2
  have pf3 := (T5).frozen 3
  have pf4 := (T5).frozen 4
  have pf5 := (T5).frozen 5
  have pf6 := (T5).frozen 6
  have pf7 := (T5).frozen 7
  have pf8 := (T5).frozen 8
  have pf9 := (T5).frozen 9
  have pf10 := (T5).frozen 10
  have pl := (T5).lt
  go_wp2_with fail
  refine (nationalcert_on c1 30 _ hsm).mono ?_
  rintro e w6 ⟨rfl, b6⟩
  rw [O1.out]
  have T6 := T5.ext b6
  clear p0 pf0 p1 pf1 p2 pf2 p3 pf3 p4 pf4 p5 pf5 p6 pf6 p7 pf7 p8 pf8 p9 pf9 p10 pf10 pl
  clear T5
  obtain ⟨p0, p1, p2, p3, p4, p5, p6, p7, p8, p9, p10⟩ := (T6).cells
  have pf0 := (T6).frozen 0
  have pf1 := (T6).frozen 1
  have pf2 := (T6).frozen 2
  have pf3 := (T6).frozen 3
  have pf4 := (T6).frozen 4
  have pf5 := (T6).frozen 5
  have pf6 := (T6).frozen 6
  have pf7 := (T6).frozen 7
  have pf8 := (T6).frozen 8
  have pf9 := (T6).frozen 9
  have pf10 := (T6).frozen 10
  have pl := (T6).lt
  go_wp2_with fail
  refine (nationalcert_on c1 31 _ hsm).mono ?_
  rintro e w7 ⟨rfl, b7⟩
  rw [O2.out]
  have T7 := T6.ext b7
  clear p0 pf0 p1 pf1 p2 pf2 p3 pf3 p4 pf4 p5 pf5 p6 pf6 p7 pf7 p8 pf8 p9 pf9 p10 pf10 pl
  clear T6
  obtain ⟨p0, p1, p2, p3, p4, p5, p6, p7, p8, p9, p10⟩ := (T7).cells
  have pf0 := (T7).frozen 0
  have pf1 := (T7).frozen 1
  have pf2 := (T7).frozen 2
  have pf3 := (T7).frozen 3
  have pf4 := (T7).frozen 4
  have pf5 := (T7).frozen 5
  have pf6 := (T7).frozen 6
  have pf7 := (T7).frozen 7
  have pf8 := (T7).frozen 8
  have pf9 := (T7).frozen 9
  have pf10 := (T7).frozen 10
  have pl := (T7).lt
  go_wp2_with fail
  refine (nationalcert_on c1 9 _ hsm).mono ?_
  rintro e w8 ⟨rfl, b8⟩
  rw [O3.out]
  have x8 := x4.tr (b5.tr (b6.tr (b7.tr b8)))
  clear p0 pf0 p1 pf1 p2 pf2 p3 pf3 p4 pf4 p5 pf5 p6 pf6 p7 pf7 p8 pf8 p9 pf9 p10 pf10 pl
  go_wp2_with fail
  go_ret
  exact ⟨rfl, x8⟩
theorem awake29_any (w : World) (E : KTab w 1) : Calls Tryz.prog 40 #[] w (RetQ w (.bool true)) :=
  awake29_core (nearI 12) (pw 4 (nearI 12)) (near_in _) rfl (pub_elem (inB_true (near_in 12)).1 (inB_true (near_in 12)).2) (fun w => secretM_any 12 w (by omega) (by omega)) w E
end Go.Proofs.YteilglpdmfiinaaGreatDoor

namespace Go.Proofs.YteilglpdmfiinaaGreatDoor
open Go.RowKit
set_option linter.unusedVariables false
set_option maxRecDepth 100000

set_option maxHeartbeats 4000000 in
theorem ndecodes_any {a : Value} {l : List UInt8} (w : World) (ha : Rd w a (bvs l)) (E : KTab w 1) :
    Calls Tryz.prog 10 #[a] w (RetQ w (.bool true)) := by
  obtain ⟨A, n, c, rfl, hn, z1⟩ := ha.bytes
  subst hn
  clear z1
  by_cases h : 1000 < l.length
  · have h' : (1000 : Int) < (l.length : Int) := by omega
    clear h
    go_enter Tryz.func10, Tryz.ntmps10
    go_wp2_with fail
    refine (awake29_any _ E).mono ?_
    rintro e w1 ⟨rfl, b1⟩
    go_wp2_with fail
    go_ret
    exact ⟨rfl, b1⟩
  · have h' : ¬ (1000 : Int) < (l.length : Int) := by omega
    have hl : l.length ≤ 4096 := by omega
    have HL := Lib.hid hl
    have HA := Lib.hid ha
    clear h hl ha
    go_enter Tryz.func10, Tryz.ntmps10
    go_wp2_with fail
    refine (ndecode_any _ HA.out HL.out).mono ?_
    rintro e w1 ⟨rfl, b1⟩
    generalize hc1 : dtCN l = c1
    obtain ⟨wa1, hwb1, ea1, TA1⟩ := nzero_alloc w1
    have hwa1 := hwb1.symm
    clear hwb1
    obtain ⟨wc1, hwc1, ec1, TC1⟩ : ∃ wc, wc = (((((((((((wa1.setCell ⟨w1.heap.size, 0, none⟩ (.string (bstr c1.st))).setCell ⟨w1.heap.size, 1, none⟩ (.int .i64 c1.kind)).setCell ⟨w1.heap.size, 2, none⟩ (.int .i64 c1.num)).setCell ⟨w1.heap.size, 3, none⟩ (.int .i64 c1.iss)).setCell ⟨w1.heap.size, 4, none⟩ (.int .i64 c1.own)).setCell ⟨w1.heap.size, 5, none⟩ (.int .i64 c1.key)).setCell ⟨w1.heap.size, 6, none⟩ (.int .i64 c1.fr)).setCell ⟨w1.heap.size, 7, none⟩ (.int .i64 c1.un)).setCell ⟨w1.heap.size, 8, none⟩ (.int .i64 c1.to)).setCell ⟨w1.heap.size, 9, none⟩ (.int .i64 c1.e)).setCell ⟨w1.heap.size, 10, none⟩ (.int .i64 c1.s)) ∧ Ext w1 wc ∧ NcAt wc w1.heap.size c1 := ⟨_, rfl, ext_setN ea1 (Nat.le_refl _) c1, TA1.setN c1⟩
    have HZ1 := Lib.hid (show wc1.heap.size = wa1.heap.size by rw [hwc1]; simp)
    have hla1 := TA1.lt
    obtain ⟨ra0, ra1, ra2, ra3, ra4, ra5, ra6, ra7, ra8, ra9, ra10⟩ := TA1.cells
    have ga0 := TA1.frozen 0
    have ga1 := TA1.frozen 1
    have ga2 := TA1.frozen 2
    have ga3 := TA1.frozen 3
    have ga4 := TA1.frozen 4
    have ga5 := TA1.frozen 5
    have ga6 := TA1.frozen 6
    have ga7 := TA1.frozen 7
    have ga8 := TA1.frozen 8
    have ga9 := TA1.frozen 9
    have ga10 := TA1.frozen 10
    clear ea1
    unfold ncV
    go_wp2_with fail
    rw [← hwc1]
    clear hwc1 hwa1 hla1 TA1 ra0 ga0 ra1 ga1 ra2 ga2 ra3 ga3 ra4 ga4 ra5 ga5 ra6 ga6 ra7 ga7 ra8 ga8 ra9 ga9 ra10 ga10
    have x1 := b1.tr ec1
    refine (nrefdecode_any _ (HA.out.ext x1) HL.out).mono ?_
    rintro e w2 ⟨rfl, b2⟩
    rw [hc1]
    have T2 := TC1.ext b2
    have x2 := x1.tr b2
    clear hc1 TC1 ec1 HZ1
    obtain ⟨wa2, hwb2, ea2, TA2⟩ := nzero_alloc w2
    have hwa2 := hwb2.symm
    clear hwb2
    obtain ⟨wc2, hwc2, ec2, TC2⟩ : ∃ wc, wc = (((((((((((wa2.setCell ⟨w2.heap.size, 0, none⟩ (.string (bstr c1.st))).setCell ⟨w2.heap.size, 1, none⟩ (.int .i64 c1.kind)).setCell ⟨w2.heap.size, 2, none⟩ (.int .i64 c1.num)).setCell ⟨w2.heap.size, 3, none⟩ (.int .i64 c1.iss)).setCell ⟨w2.heap.size, 4, none⟩ (.int .i64 c1.own)).setCell ⟨w2.heap.size, 5, none⟩ (.int .i64 c1.key)).setCell ⟨w2.heap.size, 6, none⟩ (.int .i64 c1.fr)).setCell ⟨w2.heap.size, 7, none⟩ (.int .i64 c1.un)).setCell ⟨w2.heap.size, 8, none⟩ (.int .i64 c1.to)).setCell ⟨w2.heap.size, 9, none⟩ (.int .i64 c1.e)).setCell ⟨w2.heap.size, 10, none⟩ (.int .i64 c1.s)) ∧ Ext w2 wc ∧ NcAt wc w2.heap.size c1 := ⟨_, rfl, ext_setN ea2 (Nat.le_refl _) c1, TA2.setN c1⟩
    have HZ2 := Lib.hid (show wc2.heap.size = wa2.heap.size by rw [hwc2]; simp)
    have hla2 := TA2.lt
    obtain ⟨ra0, ra1, ra2, ra3, ra4, ra5, ra6, ra7, ra8, ra9, ra10⟩ := TA2.cells
    have ga0 := TA2.frozen 0
    have ga1 := TA2.frozen 1
    have ga2 := TA2.frozen 2
    have ga3 := TA2.frozen 3
    have ga4 := TA2.frozen 4
    have ga5 := TA2.frozen 5
    have ga6 := TA2.frozen 6
    have ga7 := TA2.frozen 7
    have ga8 := TA2.frozen 8
    have ga9 := TA2.frozen 9
    have ga10 := TA2.frozen 10
    clear ea2
    unfold ncV
    go_wp2_with fail
    rw [← hwc2]
    clear hwc2 hwa2 hla2 TA2 ra0 ga0 ra1 ga1 ra2 ga2 ra3 ga3 ra4 ga4 ra5 ga5 ra6 ga6 ra7 ga7 ra8 ga8 ra9 ga9 ra10 ga10
    have x3 := x2.tr ec2
    refine (awake29_any _ (E.below x3)).mono ?_
    rintro e w3 ⟨rfl, b3⟩
    obtain ⟨p0, p1, p2, p3, p4, p5, p6, p7, p8, p9, p10⟩ := ((T2.ext (ec2.tr (b3)))).cells
    have pf0 := ((T2.ext (ec2.tr (b3)))).frozen 0
    have pf1 := ((T2.ext (ec2.tr (b3)))).frozen 1
    have pf2 := ((T2.ext (ec2.tr (b3)))).frozen 2
    have pf3 := ((T2.ext (ec2.tr (b3)))).frozen 3
    have pf4 := ((T2.ext (ec2.tr (b3)))).frozen 4
    have pf5 := ((T2.ext (ec2.tr (b3)))).frozen 5
    have pf6 := ((T2.ext (ec2.tr (b3)))).frozen 6
    have pf7 := ((T2.ext (ec2.tr (b3)))).frozen 7
    have pf8 := ((T2.ext (ec2.tr (b3)))).frozen 8
    have pf9 := ((T2.ext (ec2.tr (b3)))).frozen 9
    have pf10 := ((T2.ext (ec2.tr (b3)))).frozen 10
    have pl := ((T2.ext (ec2.tr (b3)))).lt
    obtain ⟨q0, q1, q2, q3, q4, q5, q6, q7, q8, q9, q10⟩ := ((TC2.ext (b3))).cells
    have qf0 := ((TC2.ext (b3))).frozen 0
    have qf1 := ((TC2.ext (b3))).frozen 1
    have qf2 := ((TC2.ext (b3))).frozen 2
    have qf3 := ((TC2.ext (b3))).frozen 3
    have qf4 := ((TC2.ext (b3))).frozen 4
    have qf5 := ((TC2.ext (b3))).frozen 5
    have qf6 := ((TC2.ext (b3))).frozen 6
    have qf7 := ((TC2.ext (b3))).frozen 7
    have qf8 := ((TC2.ext (b3))).frozen 8
    have qf9 := ((TC2.ext (b3))).frozen 9
    have qf10 := ((TC2.ext (b3))).frozen 10
    have ql := ((TC2.ext (b3))).lt
    clear HZ2
    go_wp2_with fail
    go_ret
    exact ⟨by simp, x3.tr b3⟩
set_option maxHeartbeats 4000000 in
theorem nissues_any (k p : Int) (c : NC) (w : World) (E : Env w) :
    Calls Tryz.prog 11 #[.int .i64 k, .int .i64 p, ncV c] w (RetQ w (.bool true)) := by
  have hz1 : (bstr c.st).size = c.st.length := by show c.st.toArray.size = _; simp
  obtain ⟨wz, hwz, xz, TZ⟩ := nc_alloc w c
  by_cases h : c.st.length ≤ 100
  · have k1 : ¬ (100 : Int) < ((bstr c.st).size : Int) := by rw [hz1]; omega
    have hsm : smN c := by unfold smN; omega
    clear hz1 h
    unfold ncV
    go_enter Tryz.func11, Tryz.ntmps11
    go_wp2_with fail
    rw [← hwz]
    clear hwz
    obtain ⟨p0, p1, p2, p3, p4, p5, p6, p7, p8, p9, p10⟩ := (TZ).cells
    have pf0 := (TZ).frozen 0
    have pf1 := (TZ).frozen 1
    have pf2 := (TZ).frozen 2
    have pf3 := (TZ).frozen 3
    have pf4 := (TZ).frozen 4
    have pf5 := (TZ).frozen 5
    have pf6 := (TZ).frozen 6
    have pf7 := (TZ).frozen 7
    have pf8 := (TZ).frozen 8
    have pf9 := (TZ).frozen 9
    have pf10 := (TZ).frozen 10
    have pl := (TZ).lt
    go_wp2_with fail
    refine (nissue_any k c _ hsm (E.ext xz).d).mono ?_
    rintro e w2 ⟨rfl, b2⟩
    have hsa := sm_isCN (k := k) hsm
    generalize hca : isCN k c = ca at *
    generalize hka : isKN k c = ka at *
    have HCA := Lib.hid hca
    have HKA := Lib.hid hka
    clear hca hka
    have T2 := TZ.ext b2
    have x2 := xz.tr b2
    clear p0 pf0 p1 pf1 p2 pf2 p3 pf3 p4 pf4 p5 pf5 p6 pf6 p7 pf7 p8 pf8 p9 pf9 p10 pf10 pl
    clear TZ
    obtain ⟨wa1, hwb1, ea1, TA1⟩ := nzero_alloc w2
    have hwa1 := hwb1.symm
    clear hwb1
    obtain ⟨wc1, hwc1, ec1, TC1⟩ : ∃ wc, wc = (((((((((((wa1.setCell ⟨w2.heap.size, 0, none⟩ (.string (bstr ca.st))).setCell ⟨w2.heap.size, 1, none⟩ (.int .i64 ca.kind)).setCell ⟨w2.heap.size, 2, none⟩ (.int .i64 ca.num)).setCell ⟨w2.heap.size, 3, none⟩ (.int .i64 ca.iss)).setCell ⟨w2.heap.size, 4, none⟩ (.int .i64 ca.own)).setCell ⟨w2.heap.size, 5, none⟩ (.int .i64 ca.key)).setCell ⟨w2.heap.size, 6, none⟩ (.int .i64 ca.fr)).setCell ⟨w2.heap.size, 7, none⟩ (.int .i64 ca.un)).setCell ⟨w2.heap.size, 8, none⟩ (.int .i64 ca.to)).setCell ⟨w2.heap.size, 9, none⟩ (.int .i64 ca.e)).setCell ⟨w2.heap.size, 10, none⟩ (.int .i64 ca.s)) ∧ Ext w2 wc ∧ NcAt wc w2.heap.size ca := ⟨_, rfl, ext_setN ea1 (Nat.le_refl _) ca, TA1.setN ca⟩
    have HZ1 := Lib.hid (show wc1.heap.size = wa1.heap.size by rw [hwc1]; simp)
    have hla1 := TA1.lt
    obtain ⟨ra0, ra1, ra2, ra3, ra4, ra5, ra6, ra7, ra8, ra9, ra10⟩ := TA1.cells
    have ga0 := TA1.frozen 0
    have ga1 := TA1.frozen 1
    have ga2 := TA1.frozen 2
    have ga3 := TA1.frozen 3
    have ga4 := TA1.frozen 4
    have ga5 := TA1.frozen 5
    have ga6 := TA1.frozen 6
    have ga7 := TA1.frozen 7
    have ga8 := TA1.frozen 8
    have ga9 := TA1.frozen 9
    have ga10 := TA1.frozen 10
    clear ea1
    unfold ncV
    go_upto_region 4 with fail
    rw [← hwc1]
    clear hwc1 hwa1 hla1 TA1 ra0 ga0 ra1 ga1 ra2 ga2 ra3 ga3 ra4 ga4 ra5 ga5 ra6 ga6 ra7 ga7 ra8 ga8 ra9 ga9 ra10 ga10
    have T3 := T2.ext ec1
    clear HZ1
    obtain ⟨p0, p1, p2, p3, p4, p5, p6, p7, p8, p9, p10⟩ := (T3).cells
    have pf0 := (T3).frozen 0
    have pf1 := (T3).frozen 1
    have pf2 := (T3).frozen 2
    have pf3 := (T3).frozen 3
    have pf4 := (T3).frozen 4
    have pf5 := (T3).frozen 5
    have pf6 := (T3).frozen 6
    have pf7 := (T3).frozen 7
    have pf8 := (T3).frozen 8
    have pf9 := (T3).frozen 9
    have pf10 := (T3).frozen 10
    have pl := (T3).lt
    have x3 := x2.tr ec1
    go_wp2_with fail
    refine (nrefissue_any k c _ hsm (E.ext x3).r).mono ?_
    rintro e w4 ⟨rfl, b4⟩
    rw [HCA.out, HKA.out]
    have x4 := x3.tr b4
    have T4 := T3.ext b4
    have TA4 := TC1.ext b4
    clear p0 pf0 p1 pf1 p2 pf2 p3 pf3 p4 pf4 p5 pf5 p6 pf6 p7 pf7 p8 pf8 p9 pf9 p10 pf10 pl
    clear HCA HKA TC1 T3 T2 ec1
    obtain ⟨wa2, hwb2, ea2, TA2⟩ := nzero_alloc w4
    have hwa2 := hwb2.symm
    clear hwb2
    obtain ⟨wc2, hwc2, ec2, TC2⟩ : ∃ wc, wc = (((((((((((wa2.setCell ⟨w4.heap.size, 0, none⟩ (.string (bstr ca.st))).setCell ⟨w4.heap.size, 1, none⟩ (.int .i64 ca.kind)).setCell ⟨w4.heap.size, 2, none⟩ (.int .i64 ca.num)).setCell ⟨w4.heap.size, 3, none⟩ (.int .i64 ca.iss)).setCell ⟨w4.heap.size, 4, none⟩ (.int .i64 ca.own)).setCell ⟨w4.heap.size, 5, none⟩ (.int .i64 ca.key)).setCell ⟨w4.heap.size, 6, none⟩ (.int .i64 ca.fr)).setCell ⟨w4.heap.size, 7, none⟩ (.int .i64 ca.un)).setCell ⟨w4.heap.size, 8, none⟩ (.int .i64 ca.to)).setCell ⟨w4.heap.size, 9, none⟩ (.int .i64 ca.e)).setCell ⟨w4.heap.size, 10, none⟩ (.int .i64 ca.s)) ∧ Ext w4 wc ∧ NcAt wc w4.heap.size ca := ⟨_, rfl, ext_setN ea2 (Nat.le_refl _) ca, TA2.setN ca⟩
    have HZ2 := Lib.hid (show wc2.heap.size = wa2.heap.size by rw [hwc2]; simp)
    have hla2 := TA2.lt
    obtain ⟨ra0, ra1, ra2, ra3, ra4, ra5, ra6, ra7, ra8, ra9, ra10⟩ := TA2.cells
    have ga0 := TA2.frozen 0
    have ga1 := TA2.frozen 1
    have ga2 := TA2.frozen 2
    have ga3 := TA2.frozen 3
    have ga4 := TA2.frozen 4
    have ga5 := TA2.frozen 5
    have ga6 := TA2.frozen 6
    have ga7 := TA2.frozen 7
    have ga8 := TA2.frozen 8
    have ga9 := TA2.frozen 9
    have ga10 := TA2.frozen 10
    clear ea2
    unfold ncV
    go_wp2_with fail
    rw [← hwc2]
    clear hwc2 hwa2 hla2 TA2 ra0 ga0 ra1 ga1 ra2 ga2 ra3 ga3 ra4 ga4 ra5 ga5 ra6 ga6 ra7 ga7 ra8 ga8 ra9 ga9 ra10 ga10
    have T5 := T4.ext ec2
    have TA5 := TA4.ext ec2
    have x5 := x4.tr ec2
    clear T4 TA4 HZ2 x4 ec2
    refine Gd.wp_region_X 43 (by kernel_rfl) (by kernel_rfl) ?_
    simp only [List.take_succ_cons, List.take_zero, List.drop_succ_cons, List.drop_zero]
    intro wq hw1
    have LL : ∀ m : Lt wq, Ext wc2 m.1 := fun m => hw1.tr m.2
    have P0 : ∀ m : Lt wq, NcAt m.1 w.heap.size c := fun m => T5.ext (LL m)
    have p0 := fun m : Lt wq => (P0 m).cells.1
    have p1 := fun m : Lt wq => (P0 m).cells.2.1
    have p2 := fun m : Lt wq => (P0 m).cells.2.2.1
    have p3 := fun m : Lt wq => (P0 m).cells.2.2.2.1
    have p4 := fun m : Lt wq => (P0 m).cells.2.2.2.2.1
    have p5 := fun m : Lt wq => (P0 m).cells.2.2.2.2.2.1
    have p6 := fun m : Lt wq => (P0 m).cells.2.2.2.2.2.2.1
    have p7 := fun m : Lt wq => (P0 m).cells.2.2.2.2.2.2.2.1
    have p8 := fun m : Lt wq => (P0 m).cells.2.2.2.2.2.2.2.2.1
    have p9 := fun m : Lt wq => (P0 m).cells.2.2.2.2.2.2.2.2.2.1
    have p10 := fun m : Lt wq => (P0 m).cells.2.2.2.2.2.2.2.2.2.2
    have Q0 : ∀ m : Lt wq, NcAt m.1 w2.heap.size ca := fun m => TA5.ext (LL m)
    have q0 := fun m : Lt wq => (Q0 m).cells.1
    have q1 := fun m : Lt wq => (Q0 m).cells.2.1
    have q2 := fun m : Lt wq => (Q0 m).cells.2.2.1
    have q3 := fun m : Lt wq => (Q0 m).cells.2.2.2.1
    have q4 := fun m : Lt wq => (Q0 m).cells.2.2.2.2.1
    have q5 := fun m : Lt wq => (Q0 m).cells.2.2.2.2.2.1
    have q6 := fun m : Lt wq => (Q0 m).cells.2.2.2.2.2.2.1
    have q7 := fun m : Lt wq => (Q0 m).cells.2.2.2.2.2.2.2.1
    have q8 := fun m : Lt wq => (Q0 m).cells.2.2.2.2.2.2.2.2.1
    have q9 := fun m : Lt wq => (Q0 m).cells.2.2.2.2.2.2.2.2.2.1
    have q10 := fun m : Lt wq => (Q0 m).cells.2.2.2.2.2.2.2.2.2.2
    have R0 : ∀ m : Lt wq, NcAt m.1 w4.heap.size ca := fun m => TC2.ext (LL m)
    have r0 := fun m : Lt wq => (R0 m).cells.1
    have r1 := fun m : Lt wq => (R0 m).cells.2.1
    have r2 := fun m : Lt wq => (R0 m).cells.2.2.1
    have r3 := fun m : Lt wq => (R0 m).cells.2.2.2.1
    have r4 := fun m : Lt wq => (R0 m).cells.2.2.2.2.1
    have r5 := fun m : Lt wq => (R0 m).cells.2.2.2.2.2.1
    have r6 := fun m : Lt wq => (R0 m).cells.2.2.2.2.2.2.1
    have r7 := fun m : Lt wq => (R0 m).cells.2.2.2.2.2.2.2.1
    have r8 := fun m : Lt wq => (R0 m).cells.2.2.2.2.2.2.2.2.1
    have r9 := fun m : Lt wq => (R0 m).cells.2.2.2.2.2.2.2.2.2.1
    have r10 := fun m : Lt wq => (R0 m).cells.2.2.2.2.2.2.2.2.2.2
    refine Gd.wpX_callFn (by first | exact trivial | exact ⟨_, rfl, rfl, rfl⟩) (.bool true) (args := []) rfl rfl rfl rfl (by kernel_rfl) rfl rfl (fun m => (awake29_any m.1 (E.ext (x5.tr (LL m))).d).mono fun _ _ ⟨h1, h2⟩ => ⟨h1, h2⟩) ?_
    simp only [Act.put, List.setIfInBounds_toArray, List.set_cons_zero, List.set_cons_succ]
    repeat (refine Gd.wpX_pure (by first | exact trivial | exact ⟨_, rfl, rfl, rfl⟩) rfl rfl rfl rfl rfl (fun K hK => ?_); go_big_quiet_op; refine hK _ ?_; clear hK K)
    have V1 := fun (m : Lt wq) => nverify_any p c m.1 hsm (E.ext (x5.tr (LL m))).d
    have V2 := fun (m : Lt wq) => nrefverify_any p c m.1 hsm (E.ext (x5.tr (LL m))).r
    have V3 := fun (m : Lt wq) => nverify_any p ca m.1 hsa (E.ext (x5.tr (LL m))).d
    have V4 := fun (m : Lt wq) => nrefverify_any p ca m.1 hsa (E.ext (x5.tr (LL m))).r
    have V5 := fun (m : Lt wq) => nationalcert_root ca m.1 hsa (E.ext (x5.tr (LL m))).d
    have V6 := fun (m : Lt wq) => traveldocref29_root ca m.1 hsa (E.ext (x5.tr (LL m))).r
    have V7 := fun (m : Lt wq) => nationalcert_root c m.1 hsm (E.ext (x5.tr (LL m))).d
    have V8 := fun (m : Lt wq) => traveldocref29_root c m.1 hsm (E.ext (x5.tr (LL m))).r
    generalize vfN p c = u1 at *
    generalize vfN p ca = u2 at *
    generalize rtN ca = u3 at *
    generalize rtN c = u4 at *
    refine Gd.wpX_callFn (by first | exact trivial | exact ⟨_, rfl, rfl, rfl⟩) (.bool u1) (args := [.int .i64 p, ncV c]) rfl rfl rfl rfl (by kernel_rfl) rfl rfl V1 ?_
    simp only [Act.put, List.setIfInBounds_toArray, List.set_cons_zero, List.set_cons_succ]
    repeat (refine Gd.wpX_pure (by first | exact trivial | exact ⟨_, rfl, rfl, rfl⟩) rfl rfl rfl rfl rfl (fun K hK => ?_); go_big_quiet_op; refine hK _ ?_; clear hK K)
    refine Gd.wpX_callFn (by first | exact trivial | exact ⟨_, rfl, rfl, rfl⟩) (.bool u1) (args := [.int .i64 p, ncV c]) rfl rfl rfl rfl (by kernel_rfl) rfl rfl V2 ?_
    simp only [Act.put, List.setIfInBounds_toArray, List.set_cons_zero, List.set_cons_succ]
    repeat (refine Gd.wpX_pure (by first | exact trivial | exact ⟨_, rfl, rfl, rfl⟩) rfl rfl rfl rfl rfl (fun K hK => ?_); go_big_quiet_op; refine hK _ ?_; clear hK K)
    refine Gd.wpX_callFn (by first | exact trivial | exact ⟨_, rfl, rfl, rfl⟩) (.bool u2) (args := [.int .i64 p, ncV ca]) rfl rfl rfl rfl (by kernel_rfl) rfl rfl V3 ?_
    simp only [Act.put, List.setIfInBounds_toArray, List.set_cons_zero, List.set_cons_succ]
    repeat (refine Gd.wpX_pure (by first | exact trivial | exact ⟨_, rfl, rfl, rfl⟩) rfl rfl rfl rfl rfl (fun K hK => ?_); go_big_quiet_op; refine hK _ ?_; clear hK K)
    refine Gd.wpX_callFn (by first | exact trivial | exact ⟨_, rfl, rfl, rfl⟩) (.bool u2) (args := [.int .i64 p, ncV ca]) rfl rfl rfl rfl (by kernel_rfl) rfl rfl V4 ?_
    simp only [Act.put, List.setIfInBounds_toArray, List.set_cons_zero, List.set_cons_succ]
    repeat (refine Gd.wpX_pure (by first | exact trivial | exact ⟨_, rfl, rfl, rfl⟩) rfl rfl rfl rfl rfl (fun K hK => ?_); go_big_quiet_op; refine hK _ ?_; clear hK K)
    refine Gd.wpX_callFn (by first | exact trivial | exact ⟨_, rfl, rfl, rfl⟩) (.bool u3) (args := [ncV ca]) rfl rfl rfl rfl (by kernel_rfl) rfl rfl V5 ?_
    simp only [Act.put, List.setIfInBounds_toArray, List.set_cons_zero, List.set_cons_succ]
    repeat (refine Gd.wpX_pure (by first | exact trivial | exact ⟨_, rfl, rfl, rfl⟩) rfl rfl rfl rfl rfl (fun K hK => ?_); go_big_quiet_op; refine hK _ ?_; clear hK K)
    refine Gd.wpX_callFn (by first | exact trivial | exact ⟨_, rfl, rfl, rfl⟩) (.bool u3) (args := [ncV ca]) rfl rfl rfl rfl (by kernel_rfl) rfl rfl V6 ?_
    simp only [Act.put, List.setIfInBounds_toArray, List.set_cons_zero, List.set_cons_succ]
    repeat (refine Gd.wpX_pure (by first | exact trivial | exact ⟨_, rfl, rfl, rfl⟩) rfl rfl rfl rfl rfl (fun K hK => ?_); go_big_quiet_op; refine hK _ ?_; clear hK K)
    refine Gd.wpX_callFn (by first | exact trivial | exact ⟨_, rfl, rfl, rfl⟩) (.bool u4) (args := [ncV c]) rfl rfl rfl rfl (by kernel_rfl) rfl rfl V7 ?_
    simp only [Act.put, List.setIfInBounds_toArray, List.set_cons_zero, List.set_cons_succ]
    repeat (refine Gd.wpX_pure (by first | exact trivial | exact ⟨_, rfl, rfl, rfl⟩) rfl rfl rfl rfl rfl (fun K hK => ?_); go_big_quiet_op; refine hK _ ?_; clear hK K)
    refine Gd.wpX_callFn (by first | exact trivial | exact ⟨_, rfl, rfl, rfl⟩) (.bool u4) (args := [ncV c]) rfl rfl rfl rfl (by kernel_rfl) rfl rfl V8 ?_
    simp only [Act.put, List.setIfInBounds_toArray, List.set_cons_zero, List.set_cons_succ]
    repeat (refine Gd.wpX_pure (by first | exact trivial | exact ⟨_, rfl, rfl, rfl⟩) rfl rfl rfl rfl rfl (fun K hK => ?_); go_big_quiet_op; refine hK _ ?_; clear hK K)
    refine Gd.wpX_end0 (fun m => ?_)
    have Lm := x5.tr (LL m)
    obtain ⟨wm, hwm⟩ := m
    clear LL P0 Q0 R0 V1 V2 V3 V4 V5 V6 V7 V8 p0 p1 p2 p3 p4 p5 p6 p7 p8 p9 p10 q0 q1 q2 q3 q4 q5 q6 q7 q8 q9 q10 r0 r1 r2 r3 r4 r5 r6 r7 r8 r9 r10
    show wpList _ _ _ _ _ _
    go_wp2_with fail
    go_ret
    exact ⟨by simp, Lm⟩
  · have k1 : (100 : Int) < ((bstr c.st).size : Int) := by rw [hz1]; omega
    clear hz1 h
    unfold ncV
    go_enter Tryz.func11, Tryz.ntmps11
    go_wp2_with fail
    rw [← hwz]
    clear hwz
    obtain ⟨p0, p1, p2, p3, p4, p5, p6, p7, p8, p9, p10⟩ := (TZ).cells
    have pf0 := (TZ).frozen 0
    have pf1 := (TZ).frozen 1
    have pf2 := (TZ).frozen 2
    have pf3 := (TZ).frozen 3
    have pf4 := (TZ).frozen 4
    have pf5 := (TZ).frozen 5
    have pf6 := (TZ).frozen 6
    have pf7 := (TZ).frozen 7
    have pf8 := (TZ).frozen 8
    have pf9 := (TZ).frozen 9
    have pf10 := (TZ).frozen 10
    have pl := (TZ).lt
    go_wp2_with fail
    refine (awake29_any _ (E.ext xz).d).mono ?_
    rintro e w1 ⟨rfl, b1⟩
    clear p0 pf0 p1 pf1 p2 pf2 p3 pf3 p4 pf4 p5 pf5 p6 pf6 p7 pf7 p8 pf8 p9 pf9 p10 pf10 pl
    go_wp2_with fail
    go_ret
    exact ⟨rfl, xz.tr b1⟩
end Go.Proofs.YteilglpdmfiinaaGreatDoor
