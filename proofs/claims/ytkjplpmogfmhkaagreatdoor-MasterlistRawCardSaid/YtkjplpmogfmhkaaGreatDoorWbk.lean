/- Parts Uz Mz of the proof. -/
import Derived.Test.YtkjplpmogfmhkaaGreatDoorWbj
import Derived.Test.YtkjplpmogfmhkaaGreatDoorWay
import Derived.Test.YtkjplpmogfmhkaaGreatDoorWaw
import Derived.Test.YtkjplpmogfmhkaaGreatDoorWbe
import Derived.Test.YtkjplpmogfmhkaaGreatDoorWbc
import Derived.Test.YtkjplpmogfmhkaaGreatDoorWba
import Derived.Test.YtkjplpmogfmhkaaGreatDoorWaz
namespace Go.Proofs.YtkjplpmogfmhkaaGreatDoor
open Go.RowKit
open Go.Proofs.YtkjplpmogfmhkaaGreatDoor.Gd (GRun GSkip)
set_option linter.unusedVariables false
set_option maxRecDepth 100000
section
variable {P : Program} {ops : Array Oper} {Q : Exit → Act → World → Prop} {w0 : World} {R : Act → World → Prop}
theorem Gd.wpX_convK {o : Oper} {rest : List Oper} {a : Act} {hs : List (Nat × VPred)} {d : Nat} (hg : GRun ops o a hs) (v xv : Value) {t1 t2 : TypeId} {x : Operand} (hd : o.dst = some d) (hz : Nat.blt d a.tmps.size = true) (ho : o.op = .convert t1 t2 x) (hx : a.eval x = xv) (hn : noHole o hs = true)
 (h : ∀ m : Lt w0, (convert t1 t2 xv).run P m.1 = .ok v m.1) (hr : Gd.wpX P ops Q w0 R rest (a.put (some d) v) hs) : Gd.wpX P ops Q w0 R (o :: rest) a hs :=
 Gd.wpX_call hg v hd hz (by unfold notSelect; rw [ho]) hn (fun m K hK => by
  unfold Oper.wp execOp
  simp only [ho, hx, Sem.run_bind, h m, Result.andThen_ok, Sem.run_pure]
  exact hK _ _ (by rw [hd]; rfl) ⟨Below.refl _ _, by rw [hd, eval_put_same (blt_lt hz)]⟩) hr
end
set_option maxHeartbeats 16000000 in
theorem mraw_any {s0 s1 s2 s3 s4 : SlT} (S : ST) (m : MA) {u : Value} (secret day : Int) (w : World) (hS : StR w s0 s1 s2 s3 s4 S) (hG : StG S) (hz : s0.2.1 ≤ 2000000000000 ∧ s1.2.1 ≤ 2000000000000) (hv : RdN w u m.roots) (hg : gdM m) (E : Env w) :
 Calls Tryz.prog 11 #[storeV s0 s1 s2 s3 s4, maV m u, .int .i64 secret, .int .i64 day] w (RetQ w (.bool true)) := by
 obtain ⟨wz, hwz, TZ⟩ := two_allocV w s0 s1 s2 s3 s4 m u
 have HLI := Lib.hid (fun W (e : Ext w W) => light31_any s0 s1 s2 s3 s4 m u W (RdK.ext hv e) hz.1 hz.2)
 obtain ⟨A, n, cq, rfl, hn, -⟩ := hv.at_
 subst hn
 obtain ⟨ht, hsg, hrt⟩ := hg
 have l0 : s0.2.1 = S.roots.length := by obtain ⟨_, _, _, q, q2, -⟩ := RdN.at_ hS.r0; injection q with _ q _; rw [q, q2]
 have l1 : s1.2.1 = S.pool.length := by obtain ⟨_, _, _, q, q2, -⟩ := RdN.at_ hS.r1; injection q with _ q _; rw [q, q2]
 have hs : smL m.roots := fun c hc => hrt c hc
 have hq : smN m.sg := hsg
 have p0 : smL S.roots := fun c hc => hG.r c hc
 have p1 : smL S.pool := fun c hc => hG.p c hc
 have HAW := Lib.hid (fun W (e : Ext w W) => awake31_any W (E.ext e))
 have HB1 := Lib.hid (fun W (e : Ext w W) => mbody_any m (.slice A m.roots.length cq) W (RdK.ext hv e) hs hq ht (E.ext e).d)
 have HB2 := Lib.hid (fun W (e : Ext w W) => refmbody_any m (.slice A m.roots.length cq) W (RdK.ext hv e) hs hq ht (E.ext e).r)
 have HC1 := Lib.hid (fun W (e : Ext w W) => mcheck_any m (.slice A m.roots.length cq) W (RdK.ext hv e) hs hq ht (E.ext e).d)
 have HC2 := Lib.hid (fun W (e : Ext w W) => refmcheck_any m (.slice A m.roots.length cq) W (RdK.ext hv e) hs hq ht (E.ext e).r)
 have HI1 := Lib.hid (fun (hl : m.roots.length ≤ 18) W (e : Ext w W) => missue_any secret m (.slice A m.roots.length cq) W (RdK.ext hv e) hs hq ht (by omega) (E.ext e).d)
 have HI2 := Lib.hid (fun W (e : Ext w W) => refmissue_any secret m (.slice A m.roots.length cq) W (RdK.ext hv e) hs hq ht (E.ext e).r)
 have HV1 := Lib.hid (fun (hl : s0.2.1 + s1.2.1 ≤ 12) W (e : Ext w W) => mverify_any s0 s1 s2 s3 s4 S.roots S.pool m (.slice A m.roots.length cq) day W (RdK.ext hS.r0 e) (RdK.ext hS.r1 e) p0 p1 (by omega) (RdK.ext hv e) hs hq ht (E.ext e).d)
 have HV2 := Lib.hid (fun (hl : s0.2.1 + s1.2.1 ≤ 12) W (e : Ext w W) => refmverify_any s0 s1 s2 s3 s4 S.roots S.pool m (.slice A m.roots.length cq) day W (RdK.ext hS.r0 e) (RdK.ext hS.r1 e) p0 p1 (by omega) (RdK.ext hv e) hs hq ht (E.ext e).r)
 have Z0 := Lib.hid TZ
 clear hS hG hz hv ht hsg hrt l0 l1 hs hq p0 p1 E TZ
 unfold storeV maV maCells
 go_enter Tryz.func11, Tryz.ntmps11
 go_upto_region 1 with fail
 rw [← hwz]
 clear hwz
 have HS := Lib.hid Z0.out.s
 have HR := Lib.hid Z0.out.m.row
 go_wp2_with (first | (refine wpList_load_row rfl 75 _ rfl w.heap.size rfl 75 (stRow s0 s1 s2 s3 s4) (0, 0) _ HS.out Tryz.underlying75 rfl info_st ?_) | (refine wpList_load_row rfl 80 _ rfl (w.heap.size + 1) rfl 80 (maCells m (.slice A m.roots.length cq)).toArray (0, 0) _ HR.out Tryz.underlying80 rfl info_ma ?_))
 refine (HLI.out wz Z0.out.ext).mono ?_
 rintro e w1 ⟨b, rfl, hb80, b1⟩
 have Z1 := Lib.hid (Z0.out.tr b1)
 clear HS HR Z0 b1 HLI
 cases b with
 | false =>
   clear hb80
   go_wp2_with fail
   refine (HAW.out w1 Z1.out.ext).mono ?_
   rintro e w2 ⟨rfl, b2⟩
   go_wp2_with fail
   go_ret
   exact ⟨rfl, Z1.out.ext.tr b2⟩
 | true =>
 have HI1' := Lib.hid (HI1.out (hb80 rfl).1)
 have HV1' := Lib.hid (HV1.out (hb80 rfl).2)
 have HV2' := Lib.hid (HV2.out (hb80 rfl).2)
 clear hb80 HI1 HV1 HV2
 go_upto_region 3 with fail
 have HR := Lib.hid Z1.out.m.row
 go_wp2_with (refine wpList_load_row rfl 80 _ rfl (w.heap.size + 1) rfl 80 (maCells m (.slice A m.roots.length cq)).toArray (0, 0) _ HR.out Tryz.underlying80 rfl info_ma ?_)
 refine (HB1.out w1 Z1.out.ext).mono ?_
 rintro e w2 ⟨A2, n2, c2, rfl, hn2, r2, b2⟩
 have Z2 := Lib.hid (Z1.out.tr b2)
 have R2 := Lib.hid r2
 clear HR Z1 b2 hn2 r2
 go_upto_region 4 with fail
 have HR := Lib.hid Z2.out.m.row
 go_wp2_with (refine wpList_load_row rfl 80 _ rfl (w.heap.size + 1) rfl 80 (maCells m (.slice A m.roots.length cq)).toArray (0, 0) _ HR.out Tryz.underlying80 rfl info_ma ?_)
 refine (HB2.out w2 Z2.out.ext).mono ?_
 rintro e w3 ⟨A3, n3, c3, rfl, hn3, r3, b3⟩
 have Z3 := Lib.hid (Z2.out.tr b3)
 have R3 := Lib.hid r3
 have R23 := Lib.hid (R2.out.ext b3)
 clear HR Z2 b3 hn3 r3 R2
 go_upto_region 5 with fail
 have HR := Lib.hid Z3.out.m.row
 go_wp2_with (refine wpList_load_row rfl 80 _ rfl (w.heap.size + 1) rfl 80 (maCells m (.slice A m.roots.length cq)).toArray (0, 0) _ HR.out Tryz.underlying80 rfl info_ma ?_)
 refine (HI1'.out w3 Z3.out.ext).mono ?_
 rintro e w4 ⟨A4, n4, c4, rfl, O4, b4⟩
 obtain ⟨ir, hir⟩ : ∃ ir, isCM secret m = ir := ⟨_, rfl⟩
 rw [hir] at O4 HI2
 rw [hir]
 obtain ⟨kr, hkr⟩ : ∃ kr, isKM secret m = kr := ⟨_, rfl⟩
 rw [hkr] at HI2
 rw [hkr]
 clear hir hkr
 obtain ⟨wa, hwa, ea, TA⟩ := ma_alloc w4 ir (.slice A4 n4 c4)
 have Z5 := Lib.hid (Z3.out.tr (b4.tr ea))
 have R25 := Lib.hid (R23.out.ext (b4.tr ea))
 have R35 := Lib.hid (R3.out.ext (b4.tr ea))
 have HTA := Lib.hid TA
 have HOA := Lib.hid (show RdN wa (.slice A4 n4 c4) ir.roots from (O4.ext ea).rd)
 clear HR Z3 b4 O4 ea TA R23 R3 HI1'
 unfold maV maCells
 go_upto_region 6 with fail
 rw [← hwa]
 clear hwa
 generalize w4.heap.size = g4 at *
 have HR := Lib.hid Z5.out.m.row
 go_wp2_with (refine wpList_load_row rfl 80 _ rfl (w.heap.size + 1) rfl 80 (maCells m (.slice A m.roots.length cq)).toArray (0, 0) _ HR.out Tryz.underlying80 rfl info_ma ?_)
 refine (HI2.out wa Z5.out.ext).mono ?_
 rintro e w6 ⟨A6, n6, c6, rfl, O6, b6, -⟩
 obtain ⟨wb, hwb, eb, TB⟩ := ma_alloc w6 ir (.slice A6 n6 c6)
 have Z7 := Lib.hid (Z5.out.tr (b6.tr eb))
 have R27 := Lib.hid (R25.out.ext (b6.tr eb))
 have R37 := Lib.hid (R35.out.ext (b6.tr eb))
 have HTA7 := Lib.hid (HTA.out.ext (b6.tr eb))
 have HTB7 := Lib.hid TB
 have HOA7 := Lib.hid (RdK.ext HOA.out (b6.tr eb))
 have HOB7 := Lib.hid (RdK.ext O6 eb)
 clear HR Z5 b6 O6 eb TB R25 R35 HTA HOA HI2
 unfold maV maCells
 go_upto_region 7 with fail
 rw [← hwb]
 clear hwb
 generalize w6.heap.size = g6 at *
 have HSM := Lib.hid (fun W (h1 : RdN W (.slice A4 n4 c4) ir.roots) (h2 : RdN W (.slice A6 n6 c6) ir.roots) => refmsame_any ir (.slice A4 n4 c4) (.slice A6 n6 c6) W h1 h2)
 generalize hVK : vfyM S.roots S.pool m day = VK at *
 clear hVK
 refine Gd.wp_region_X 41 (by kernel_rfl) (by kernel_rfl) ?_
 simp only [List.take_succ_cons, List.take_zero, List.drop_succ_cons, List.drop_zero]
 intro wq hw1
 have LL : ∀ m : Lt wq, Ext wb m.1 := fun m => hw1.tr m.2
 have LW : ∀ m : Lt wq, Ext w m.1 := fun m => Z7.out.ext.tr (LL m)
 have KS := fun m : Lt wq => st_range (Z7.out.tr (LL m)).s
 have KM := fun m : Lt wq => (Z7.out.tr (LL m)).m.range
 have KX := fun m : Lt wq => (HTA7.out.ext (LL m)).range
 have KY := fun m : Lt wq => (HTB7.out.ext (LL m)).range
 repeat (refine Gd.wpX_pure (by first | exact trivial | exact ⟨_, rfl, rfl, rfl⟩) rfl rfl rfl rfl rfl (fun K hK => ?_); go_big_quiet_op; refine hK _ ?_; clear hK K)
 refine Gd.wpX_callFn (by first | exact trivial | exact ⟨_, rfl, rfl, rfl⟩) (.bool true) (args := []) rfl rfl rfl rfl (by kernel_rfl) rfl rfl (fun m => (HAW.out m.1 (LW m)).mono fun _ _ ⟨h1, h2⟩ => ⟨h1, h2⟩) ?_
 simp only [Act.put, List.setIfInBounds_toArray, List.set_cons_zero, List.set_cons_succ]
 try simp only [beq_self_eq_true]
 repeat (refine Gd.wpX_pure (by first | exact trivial | exact ⟨_, rfl, rfl, rfl⟩) rfl rfl rfl rfl rfl (fun K hK => ?_); go_big_quiet_op; refine hK _ ?_; clear hK K)
 try simp only [beq_self_eq_true]
 refine Gd.wpX_midK (by first | exact trivial | exact ⟨_, rfl, rfl, rfl⟩) (w.heap.size + 1) 0 (maCells m (.slice A m.roots.length cq)) rfl rfl rfl rfl rfl KM Tryz.underlying80 rfl info_ma ?_
 simp only [Act.put, List.setIfInBounds_toArray, List.set_cons_zero, List.set_cons_succ]
 repeat (refine Gd.wpX_pure (by first | exact trivial | exact ⟨_, rfl, rfl, rfl⟩) rfl rfl rfl rfl rfl (fun K hK => ?_); go_big_quiet_op; refine hK _ ?_; clear hK K)
 repeat (refine Gd.wpX_pure (by first | exact trivial | exact ⟨_, rfl, rfl, rfl⟩) rfl rfl rfl rfl rfl (fun K hK => ?_); go_big_quiet_op; refine hK _ ?_; clear hK K)
 refine Gd.wpX_callFn (by first | exact trivial | exact ⟨_, rfl, rfl, rfl⟩) (.int .i64 (ckM m)) (args := [maV m (.slice A m.roots.length cq)]) rfl rfl rfl rfl (by kernel_rfl) rfl rfl (fun m1 => (HC1.out m1.1 (LW m1)).mono fun _ _ ⟨h1, h2⟩ => ⟨h1, h2⟩) ?_
 simp only [Act.put, List.setIfInBounds_toArray, List.set_cons_zero, List.set_cons_succ]
 try simp only [beq_self_eq_true]
 repeat (refine Gd.wpX_pure (by first | exact trivial | exact ⟨_, rfl, rfl, rfl⟩) rfl rfl rfl rfl rfl (fun K hK => ?_); go_big_quiet_op; refine hK _ ?_; clear hK K)
 try simp only [beq_self_eq_true]
 refine Gd.wpX_midK (by first | exact trivial | exact ⟨_, rfl, rfl, rfl⟩) (w.heap.size + 1) 0 (maCells m (.slice A m.roots.length cq)) rfl rfl rfl rfl rfl KM Tryz.underlying80 rfl info_ma ?_
 simp only [Act.put, List.setIfInBounds_toArray, List.set_cons_zero, List.set_cons_succ]
 repeat (refine Gd.wpX_pure (by first | exact trivial | exact ⟨_, rfl, rfl, rfl⟩) rfl rfl rfl rfl rfl (fun K hK => ?_); go_big_quiet_op; refine hK _ ?_; clear hK K)
 repeat (refine Gd.wpX_pure (by first | exact trivial | exact ⟨_, rfl, rfl, rfl⟩) rfl rfl rfl rfl rfl (fun K hK => ?_); go_big_quiet_op; refine hK _ ?_; clear hK K)
 refine Gd.wpX_callFn (by first | exact trivial | exact ⟨_, rfl, rfl, rfl⟩) (.int .i64 (ckM m)) (args := [maV m (.slice A m.roots.length cq)]) rfl rfl rfl rfl (by kernel_rfl) rfl rfl (fun m1 => (HC2.out m1.1 (LW m1)).mono fun _ _ ⟨h1, h2⟩ => ⟨h1, h2⟩) ?_
 simp only [Act.put, List.setIfInBounds_toArray, List.set_cons_zero, List.set_cons_succ]
 try simp only [beq_self_eq_true]
 repeat (refine Gd.wpX_pure (by first | exact trivial | exact ⟨_, rfl, rfl, rfl⟩) rfl rfl rfl rfl rfl (fun K hK => ?_); go_big_quiet_op; refine hK _ ?_; clear hK K)
 try simp only [beq_self_eq_true]
 repeat (refine Gd.wpX_pure (by first | exact trivial | exact ⟨_, rfl, rfl, rfl⟩) rfl rfl rfl rfl rfl (fun K hK => ?_); go_big_quiet_op; refine hK _ ?_; clear hK K)
 refine Gd.wpX_convK (by first | exact trivial | exact ⟨_, rfl, rfl, rfl⟩) (.string (bstr (byM m))) (.slice A2 n2 c2) rfl rfl rfl rfl rfl (fun m => run_strU (R27.out.ext (LL m))) ?_
 simp only [Act.put, List.setIfInBounds_toArray, List.set_cons_zero, List.set_cons_succ]
 repeat (refine Gd.wpX_pure (by first | exact trivial | exact ⟨_, rfl, rfl, rfl⟩) rfl rfl rfl rfl rfl (fun K hK => ?_); go_big_quiet_op; refine hK _ ?_; clear hK K)
 refine Gd.wpX_convK (by first | exact trivial | exact ⟨_, rfl, rfl, rfl⟩) (.string (bstr (byM m))) (.slice A3 n3 c3) rfl rfl rfl rfl rfl (fun m => run_strU (R37.out.ext (LL m))) ?_
 simp only [Act.put, List.setIfInBounds_toArray, List.set_cons_zero, List.set_cons_succ]
 try simp only [beq_self_eq_true]
 repeat (refine Gd.wpX_pure (by first | exact trivial | exact ⟨_, rfl, rfl, rfl⟩) rfl rfl rfl rfl rfl (fun K hK => ?_); go_big_quiet_op; refine hK _ ?_; clear hK K)
 try simp only [beq_self_eq_true]
 refine Gd.wpX_midK (by first | exact trivial | exact ⟨_, rfl, rfl, rfl⟩) (g4) 0 (maCells ir (.slice A4 n4 c4)) rfl rfl rfl rfl rfl KX Tryz.underlying80 rfl info_ma ?_
 simp only [Act.put, List.setIfInBounds_toArray, List.set_cons_zero, List.set_cons_succ]
 repeat (refine Gd.wpX_pure (by first | exact trivial | exact ⟨_, rfl, rfl, rfl⟩) rfl rfl rfl rfl rfl (fun K hK => ?_); go_big_quiet_op; refine hK _ ?_; clear hK K)
 refine Gd.wpX_midK (by first | exact trivial | exact ⟨_, rfl, rfl, rfl⟩) (g6) 0 (maCells ir (.slice A6 n6 c6)) rfl rfl rfl rfl rfl KY Tryz.underlying80 rfl info_ma ?_
 simp only [Act.put, List.setIfInBounds_toArray, List.set_cons_zero, List.set_cons_succ]
 repeat (refine Gd.wpX_pure (by first | exact trivial | exact ⟨_, rfl, rfl, rfl⟩) rfl rfl rfl rfl rfl (fun K hK => ?_); go_big_quiet_op; refine hK _ ?_; clear hK K)
 repeat (refine Gd.wpX_pure (by first | exact trivial | exact ⟨_, rfl, rfl, rfl⟩) rfl rfl rfl rfl rfl (fun K hK => ?_); go_big_quiet_op; refine hK _ ?_; clear hK K)
 refine Gd.wpX_callFn (by first | exact trivial | exact ⟨_, rfl, rfl, rfl⟩) (.bool true) (args := [maV ir (.slice A4 n4 c4), maV ir (.slice A6 n6 c6)]) rfl rfl rfl rfl (by kernel_rfl) rfl rfl (fun m => (HSM.out m.1 (RdK.ext HOA7.out (LL m)) (RdK.ext HOB7.out (LL m))).mono fun _ _ ⟨h1, h2⟩ => ⟨h1, h2⟩) ?_
 simp only [Act.put, List.setIfInBounds_toArray, List.set_cons_zero, List.set_cons_succ]
 try simp only [beq_self_eq_true]
 repeat (refine Gd.wpX_pure (by first | exact trivial | exact ⟨_, rfl, rfl, rfl⟩) rfl rfl rfl rfl rfl (fun K hK => ?_); go_big_quiet_op; refine hK _ ?_; clear hK K)
 try simp only [beq_self_eq_true]
 refine Gd.wpX_midK (by first | exact trivial | exact ⟨_, rfl, rfl, rfl⟩) (w.heap.size) 0 ([slV s0, slV s1, slV s2, slV s3, slV s4]) rfl rfl rfl rfl rfl KS Tryz.underlying75 rfl info_st ?_
 simp only [Act.put, List.setIfInBounds_toArray, List.set_cons_zero, List.set_cons_succ]
 repeat (refine Gd.wpX_pure (by first | exact trivial | exact ⟨_, rfl, rfl, rfl⟩) rfl rfl rfl rfl rfl (fun K hK => ?_); go_big_quiet_op; refine hK _ ?_; clear hK K)
 refine Gd.wpX_midK (by first | exact trivial | exact ⟨_, rfl, rfl, rfl⟩) (w.heap.size + 1) 0 (maCells m (.slice A m.roots.length cq)) rfl rfl rfl rfl rfl KM Tryz.underlying80 rfl info_ma ?_
 simp only [Act.put, List.setIfInBounds_toArray, List.set_cons_zero, List.set_cons_succ]
 repeat (refine Gd.wpX_pure (by first | exact trivial | exact ⟨_, rfl, rfl, rfl⟩) rfl rfl rfl rfl rfl (fun K hK => ?_); go_big_quiet_op; refine hK _ ?_; clear hK K)
 repeat (refine Gd.wpX_pure (by first | exact trivial | exact ⟨_, rfl, rfl, rfl⟩) rfl rfl rfl rfl rfl (fun K hK => ?_); go_big_quiet_op; refine hK _ ?_; clear hK K)
 refine Gd.wpX_callFn (by first | exact trivial | exact ⟨_, rfl, rfl, rfl⟩) (.int .i64 VK) (args := [storeV s0 s1 s2 s3 s4, maV m (.slice A m.roots.length cq), .int .i64 day]) rfl rfl rfl rfl (by kernel_rfl) rfl rfl (fun m1 => (HV1'.out m1.1 (LW m1)).mono fun _ _ ⟨h1, h2⟩ => ⟨h1, h2⟩) ?_
 simp only [Act.put, List.setIfInBounds_toArray, List.set_cons_zero, List.set_cons_succ]
 try simp only [beq_self_eq_true]
 repeat (refine Gd.wpX_pure (by first | exact trivial | exact ⟨_, rfl, rfl, rfl⟩) rfl rfl rfl rfl rfl (fun K hK => ?_); go_big_quiet_op; refine hK _ ?_; clear hK K)
 try simp only [beq_self_eq_true]
 refine Gd.wpX_midK (by first | exact trivial | exact ⟨_, rfl, rfl, rfl⟩) (w.heap.size) 0 ([slV s0, slV s1, slV s2, slV s3, slV s4]) rfl rfl rfl rfl rfl KS Tryz.underlying75 rfl info_st ?_
 simp only [Act.put, List.setIfInBounds_toArray, List.set_cons_zero, List.set_cons_succ]
 repeat (refine Gd.wpX_pure (by first | exact trivial | exact ⟨_, rfl, rfl, rfl⟩) rfl rfl rfl rfl rfl (fun K hK => ?_); go_big_quiet_op; refine hK _ ?_; clear hK K)
 refine Gd.wpX_midK (by first | exact trivial | exact ⟨_, rfl, rfl, rfl⟩) (w.heap.size + 1) 0 (maCells m (.slice A m.roots.length cq)) rfl rfl rfl rfl rfl KM Tryz.underlying80 rfl info_ma ?_
 simp only [Act.put, List.setIfInBounds_toArray, List.set_cons_zero, List.set_cons_succ]
 repeat (refine Gd.wpX_pure (by first | exact trivial | exact ⟨_, rfl, rfl, rfl⟩) rfl rfl rfl rfl rfl (fun K hK => ?_); go_big_quiet_op; refine hK _ ?_; clear hK K)
 repeat (refine Gd.wpX_pure (by first | exact trivial | exact ⟨_, rfl, rfl, rfl⟩) rfl rfl rfl rfl rfl (fun K hK => ?_); go_big_quiet_op; refine hK _ ?_; clear hK K)
 refine Gd.wpX_callFn (by first | exact trivial | exact ⟨_, rfl, rfl, rfl⟩) (.int .i64 VK) (args := [storeV s0 s1 s2 s3 s4, maV m (.slice A m.roots.length cq), .int .i64 day]) rfl rfl rfl rfl (by kernel_rfl) rfl rfl (fun m1 => (HV2'.out m1.1 (LW m1)).mono fun _ _ ⟨h1, h2⟩ => ⟨h1, h2⟩) ?_
 simp only [Act.put, List.setIfInBounds_toArray, List.set_cons_zero, List.set_cons_succ]
 try simp only [beq_self_eq_true]
 repeat (refine Gd.wpX_pure (by first | exact trivial | exact ⟨_, rfl, rfl, rfl⟩) rfl rfl rfl rfl rfl (fun K hK => ?_); go_big_quiet_op; refine hK _ ?_; clear hK K)
 try simp only [beq_self_eq_true]
 refine Gd.wpX_end0 (fun m => ?_)
 have LM := Lib.hid (LW m)
 clear hw1 LL LW KS KM KX KY
 generalize m.1 = wm at *
 show wpList _ _ _ _ _ _
 go_wp2_with fail
 go_ret
 exact ⟨by simp, LM.out⟩
end Go.Proofs.YtkjplpmogfmhkaaGreatDoor
