/- Parts Uz of the proof. -/
import Derived.Test.YtkjplpmogfmhkaaGreatDoorMbg
import Derived.Test.YtkjplpmogfmhkaaGreatDoorMay
import Derived.Test.YtkjplpmogfmhkaaGreatDoorMav
import Derived.Test.YtkjplpmogfmhkaaGreatDoorMbb
namespace Go.Proofs.YtkjplpmogfmhkaaGreatDoor
open Go.RowKit
open Go.Proofs.YtkjplpmogfmhkaaGreatDoor.Gd (GRun GSkip)
set_option linter.unusedVariables false
set_option maxRecDepth 100000
section
variable {P : Program} {ops : Array Oper} {Q : Exit → Act → World → Prop} {w0 : World} {R : Act → World → Prop}
/-- A conversion whose value is known. -/
theorem Gd.wpX_convK {o : Oper} {rest : List Oper} {a : Act} {hs : List (Nat × VPred)} {d : Nat} (hg : GRun ops o a hs) (v xv : Value) {t1 t2 : TypeId} {x : Operand} (hd : o.dst = some d) (hz : Nat.blt d a.tmps.size = true) (ho : o.op = .convert t1 t2 x) (hx : a.eval x = xv) (hn : noHole o hs = true)
    (h : ∀ m : Lt w0, (convert t1 t2 xv).run P m.1 = .ok v m.1) (hr : Gd.wpX P ops Q w0 R rest (a.put (some d) v) hs) : Gd.wpX P ops Q w0 R (o :: rest) a hs :=
  Gd.wpX_call hg v hd hz (by unfold notSelect; rw [ho]) hn (fun m K hK => by
    unfold Oper.wp execOp
    simp only [ho, hx, Sem.run_bind, h m, Result.andThen_ok, Sem.run_pure]
    exact hK _ _ (by rw [hd]; rfl) ⟨Below.refl _ _, by rw [hd, eval_put_same (blt_lt hz)]⟩) hr
end
/-- The law's arguments in their blocks. -/
structure RzZ (w wr : World) (s0 s1 s2 s3 s4 : SlT) (r : RV) (v : Value) (c : NC) : Prop where
  ext : Ext w wr
  s : wr.heap[w.heap.size]? = some (.cells (stRow s0 s1 s2 s3 s4) 75 (0, 0))
  r : RvAt wr (w.heap.size + 1) r v
  c : NcAt wr (w.heap.size + 1 + 1) c
theorem RzZ.tr {w wr wx : World} {s0 s1 s2 s3 s4 : SlT} {r : RV} {v : Value} {c : NC} (h : RzZ w wr s0 s1 s2 s3 s4 r v c) (e : Ext wr wx) : RzZ w wx s0 s1 s2 s3 s4 r v c :=
  ⟨h.ext.tr e, (e.block _ (block_lt h.s)).trans h.s, h.r.ext e, NcAt.ext h.c e⟩
set_option maxHeartbeats 16000000 in
theorem revraw_any {s0 s1 s2 s3 s4 : SlT} (S : ST) (r : RV) {u : Value} (secret day : Int) (c : NC) (w : World) (hS : StR w s0 s1 s2 s3 s4 S) (hv : RdI w .i64 u r.ser) (hg : gdR r) (E : Env w) :
    Calls Tryz.prog 15 #[storeV s0 s1 s2 s3 s4, rvV r u, .int .i64 secret, .int .i64 day, ncV c] w (RetQ w (.bool true)) := by
  obtain ⟨A, n, cq, rfl, hn, -⟩ := hv.ints
  subst hn
  obtain ⟨wz, hwz, e3, TZ⟩ := nc_alloc ((w.alloc (.cells #[.slice s0.1 s0.2.1 s0.2.2, .slice s1.1 s1.2.1 s1.2.2, .slice s2.1 s2.2.1 s2.2.2, .slice s3.1 s3.2.1 s3.2.2, .slice s4.1 s4.2.1 s4.2.2] 75)).alloc (.cells #[.string (bstr r.st), .int .i64 r.num, .int .i64 r.day, .int .i64 r.nxt, .slice A r.ser.length cq, .int .i64 r.iss, .int .i64 r.e, .int .i64 r.s] 103)) c
  rw [show ((w.alloc (.cells #[.slice s0.1 s0.2.1 s0.2.2, .slice s1.1 s1.2.1 s1.2.2, .slice s2.1 s2.2.1 s2.2.2, .slice s3.1 s3.2.1 s3.2.2, .slice s4.1 s4.2.1 s4.2.2] 75)).alloc (.cells #[.string (bstr r.st), .int .i64 r.num, .int .i64 r.day, .int .i64 r.nxt, .slice A r.ser.length cq, .int .i64 r.iss, .int .i64 r.e, .int .i64 r.s] 103)).heap.size = w.heap.size + 1 + 1 by simp] at TZ
  have e1 : Ext w (w.alloc (.cells #[.slice s0.1 s0.2.1 s0.2.2, .slice s1.1 s1.2.1 s1.2.2, .slice s2.1 s2.2.1 s2.2.2, .slice s3.1 s3.2.1 s3.2.2, .slice s4.1 s4.2.1 s4.2.2] 75)) := (Below.refl _ _).alloc (Nat.le_refl _) _
  have e2 : Ext (w.alloc (.cells #[.slice s0.1 s0.2.1 s0.2.2, .slice s1.1 s1.2.1 s1.2.2, .slice s2.1 s2.2.1 s2.2.2, .slice s3.1 s3.2.1 s3.2.2, .slice s4.1 s4.2.1 s4.2.2] 75)) ((w.alloc (.cells #[.slice s0.1 s0.2.1 s0.2.2, .slice s1.1 s1.2.1 s1.2.2, .slice s2.1 s2.2.1 s2.2.2, .slice s3.1 s3.2.1 s3.2.2, .slice s4.1 s4.2.1 s4.2.2] 75)).alloc (.cells #[.string (bstr r.st), .int .i64 r.num, .int .i64 r.day, .int .i64 r.nxt, .slice A r.ser.length cq, .int .i64 r.iss, .int .i64 r.e, .int .i64 r.s] 103)) := (Below.refl _ _).alloc (Nat.le_refl _) _
  have z2 : RvAt wz (w.heap.size + 1) r (.slice A r.ser.length cq) := by
    have := (RvAt.new (w.alloc (.cells #[.slice s0.1 s0.2.1 s0.2.2, .slice s1.1 s1.2.1 s1.2.2, .slice s2.1 s2.2.1 s2.2.2, .slice s3.1 s3.2.1 s3.2.2, .slice s4.1 s4.2.1 s4.2.2] 75)) r (.slice A r.ser.length cq)).ext e3
    rwa [show (w.alloc (.cells #[.slice s0.1 s0.2.1 s0.2.2, .slice s1.1 s1.2.1 s1.2.2, .slice s2.1 s2.2.1 s2.2.2, .slice s3.1 s3.2.1 s3.2.2, .slice s4.1 s4.2.1 s4.2.2] 75)).heap.size = w.heap.size + 1 by simp] at this
  have Z0 : Hid (RzZ w wz s0 s1 s2 s3 s4 r (.slice A r.ser.length cq) c) := Lib.hid ⟨e1.tr (e2.tr e3), ((e2.tr e3).block _ (by simp)).trans (heap_alloc_new' w _), z2, TZ⟩
  have hs : r.st.length ≤ maxLen := hg
  have HLI := Lib.hid (fun W (e : Ext w W) => light32_any s0 s1 s2 s3 s4 r (.slice A r.ser.length cq) W (hv.ext e))
  have HAW := Lib.hid (fun W (e : Ext w W) => awake32_any W (E.ext e))
  have HB1 := Lib.hid (fun W (e : Ext w W) => rbody_any r (.slice A r.ser.length cq) W (hv.ext e) hs)
  have HB2 := Lib.hid (fun W (e : Ext w W) => refrbody_any r (.slice A r.ser.length cq) W (hv.ext e) hs)
  have HC1 := Lib.hid (fun W (e : Ext w W) => rcheck_any r (.slice A r.ser.length cq) W (hv.ext e) hs)
  have HC2 := Lib.hid (fun W (e : Ext w W) => refrcheck_any r (.slice A r.ser.length cq) W (hv.ext e) hs)
  have HI1 := Lib.hid (fun (hl : r.ser.length ≤ 80) W (e : Ext w W) => rissue_any secret r (.slice A r.ser.length cq) W (hv.ext e) hs (by omega) (E.ext e).d)
  have HI2 := Lib.hid (fun W (e : Ext w W) => refrissue_any secret r (.slice A r.ser.length cq) W (hv.ext e) hs (E.ext e).r)
  have HV1 := Lib.hid (fun W (e : Ext w W) => revoked_any s0 s1 s2 s3 s4 S.rs c W (hS.r3.ext e).rdV)
  have HV2 := Lib.hid (fun W (e : Ext w W) => refrevoked_any s0 s1 s2 s3 s4 S.rs c W (hS.r3.ext e).rdV)
  have HF1 := Lib.hid (fun W (e : Ext w W) => fresh_any s0 s1 s2 s3 s4 S.rs c.st day W (hS.r3.ext e).rdV)
  have HF2 := Lib.hid (fun W (e : Ext w W) => reffresh_any s0 s1 s2 s3 s4 S.rs c.st day W (hS.r3.ext e).rdV)
  clear hS hv hg hs E e1 e2 e3 z2 TZ
  unfold storeV rvV ncV
  go_enter Tryz.func15, Tryz.ntmps15
  go_upto_region 1 with fail
  rw [← hwz]
  clear hwz
  have HS := Lib.hid Z0.out.s
  have HR := Lib.hid Z0.out.r.row
  go_wp2_with (first | (refine wpList_load_row rfl 75 _ rfl w.heap.size rfl 75 (stRow s0 s1 s2 s3 s4) (0, 0) _ HS.out Tryz.underlying75 rfl info_st ?_) | (refine wpList_load_row rfl 103 _ rfl (w.heap.size + 1) rfl 103 (rvRow r (.slice A r.ser.length cq)) (0, 0) _ HR.out Tryz.underlying103 rfl info_rv ?_))
  refine (HLI.out wz Z0.out.ext).mono ?_
  rintro e w1 ⟨b, rfl, hb80, b1⟩
  have Z1 := Lib.hid (Z0.out.tr b1)
  clear HS HR Z0 b1 HLI
  cases b with
  | false =>
    clear hb80
    go_wp2_with fail
    refine (HAW.out w1 Z1.out.ext).mono ?_
    rintro e w2 ⟨rfl, b2⟩
    go_wp2_with fail
    go_ret
    exact ⟨rfl, Z1.out.ext.tr b2⟩
  | true =>
  have HI1' := Lib.hid (HI1.out (hb80 rfl))
  clear hb80 HI1
  go_upto_region 3 with fail
  have HR := Lib.hid Z1.out.r.row
  go_wp2_with (refine wpList_load_row rfl 103 _ rfl (w.heap.size + 1) rfl 103 (rvRow r (.slice A r.ser.length cq)) (0, 0) _ HR.out Tryz.underlying103 rfl info_rv ?_)
  refine (HB1.out w1 Z1.out.ext).mono ?_
  rintro e w2 ⟨A2, n2, c2, rfl, hn2, r2, b2⟩
  have Z2 := Lib.hid (Z1.out.tr b2)
  have R2 := Lib.hid r2
  clear HR Z1 b2 hn2 r2
  go_upto_region 4 with fail
  have HR := Lib.hid Z2.out.r.row
  go_wp2_with (refine wpList_load_row rfl 103 _ rfl (w.heap.size + 1) rfl 103 (rvRow r (.slice A r.ser.length cq)) (0, 0) _ HR.out Tryz.underlying103 rfl info_rv ?_)
  refine (HB2.out w2 Z2.out.ext).mono ?_
  rintro e w3 ⟨A3, n3, c3, rfl, hn3, r3, b3⟩
  have Z3 := Lib.hid (Z2.out.tr b3)
  have R3 := Lib.hid r3
  have R23 := Lib.hid (R2.out.ext b3)
  clear HR Z2 b3 hn3 r3 R2
  go_upto_region 5 with fail
  have HR := Lib.hid Z3.out.r.row
  go_wp2_with (refine wpList_load_row rfl 103 _ rfl (w.heap.size + 1) rfl 103 (rvRow r (.slice A r.ser.length cq)) (0, 0) _ HR.out Tryz.underlying103 rfl info_rv ?_)
  refine (HI1'.out w3 Z3.out.ext).mono ?_
  rintro e w4 ⟨A4, n4, c4, rfl, O4, b4⟩
  obtain ⟨ir, hir⟩ : ∃ ir, isCR secret r = ir := ⟨_, rfl⟩
  rw [hir] at O4 HI2
  rw [hir]
  obtain ⟨kr, hkr⟩ : ∃ kr, isKR secret r = kr := ⟨_, rfl⟩
  rw [hkr] at HI2
  rw [hkr]
  clear hir hkr
  obtain ⟨wa, hwa, ea, TA⟩ := rv_alloc w4 ir (.slice A4 n4 c4)
  have Z5 := Lib.hid (Z3.out.tr (b4.tr ea))
  have R25 := Lib.hid (R23.out.ext (b4.tr ea))
  have R35 := Lib.hid (R3.out.ext (b4.tr ea))
  have HTA := Lib.hid TA
  have HOA := Lib.hid (show RdI wa .i64 (.slice A4 n4 c4) ir.ser from (O4.ext ea).rd)
  clear HR Z3 b4 O4 ea TA R23 R3 HI1'
  unfold rvV
  go_upto_region 6 with fail
  rw [← hwa]
  clear hwa
  generalize w4.heap.size = g4 at *
  have HR := Lib.hid Z5.out.r.row
  go_wp2_with (refine wpList_load_row rfl 103 _ rfl (w.heap.size + 1) rfl 103 (rvRow r (.slice A r.ser.length cq)) (0, 0) _ HR.out Tryz.underlying103 rfl info_rv ?_)
  refine (HI2.out wa Z5.out.ext).mono ?_
  rintro e w6 ⟨A6, n6, c6, rfl, O6, b6, -⟩
  obtain ⟨wb, hwb, eb, TB⟩ := rv_alloc w6 ir (.slice A6 n6 c6)
  have Z7 := Lib.hid (Z5.out.tr (b6.tr eb))
  have R27 := Lib.hid (R25.out.ext (b6.tr eb))
  have R37 := Lib.hid (R35.out.ext (b6.tr eb))
  have HTA7 := Lib.hid (HTA.out.ext (b6.tr eb))
  have HTB7 := Lib.hid TB
  have HOA7 := Lib.hid (HOA.out.ext (b6.tr eb))
  have HOB7 := Lib.hid (O6.ext eb)
  clear HR Z5 b6 O6 eb TB R25 R35 HTA HOA HI2
  unfold rvV
  go_upto_region 7 with fail
  rw [← hwb]
  clear hwb
  generalize w6.heap.size = g6 at *
  have HSM := Lib.hid (fun W (h1 : RdI W .i64 (.slice A4 n4 c4) ir.ser) (h2 : RdI W .i64 (.slice A6 n6 c6) ir.ser) => refrsame_any ir (.slice A4 n4 c4) (.slice A6 n6 c6) W h1 h2)
  refine Gd.wp_region_X 51 (by kernel_rfl) (by kernel_rfl) ?_
  simp only [List.take_succ_cons, List.take_zero, List.drop_succ_cons, List.drop_zero]
  intro wq hw1
  have LL : ∀ m : Lt wq, Ext wb m.1 := fun m => hw1.tr m.2
  have LW : ∀ m : Lt wq, Ext w m.1 := fun m => Z7.out.ext.tr (LL m)
  have p0 : ∀ m : Lt wq, m.1.cell? ⟨w.heap.size, 0, none⟩ = some (.slice s0.1 s0.2.1 s0.2.2) := fun m => by rw [cell_of_row _ _ 0 _ _ _ (Z7.out.tr (LL m)).s]; rfl
  have p1 : ∀ m : Lt wq, m.1.cell? ⟨w.heap.size, 1, none⟩ = some (.slice s1.1 s1.2.1 s1.2.2) := fun m => by rw [cell_of_row _ _ 1 _ _ _ (Z7.out.tr (LL m)).s]; rfl
  have p2 : ∀ m : Lt wq, m.1.cell? ⟨w.heap.size, 2, none⟩ = some (.slice s2.1 s2.2.1 s2.2.2) := fun m => by rw [cell_of_row _ _ 2 _ _ _ (Z7.out.tr (LL m)).s]; rfl
  have p3 : ∀ m : Lt wq, m.1.cell? ⟨w.heap.size, 3, none⟩ = some (.slice s3.1 s3.2.1 s3.2.2) := fun m => by rw [cell_of_row _ _ 3 _ _ _ (Z7.out.tr (LL m)).s]; rfl
  have p4 : ∀ m : Lt wq, m.1.cell? ⟨w.heap.size, 4, none⟩ = some (.slice s4.1 s4.2.1 s4.2.2) := fun m => by rw [cell_of_row _ _ 4 _ _ _ (Z7.out.tr (LL m)).s]; rfl
  have pl : ∀ m : Lt wq, w.heap.size < m.1.heap.size := fun m => block_lt (Z7.out.tr (LL m)).s
  have q0 := fun m : Lt wq => (Z7.out.tr (LL m)).r.c0
  have q1 := fun m : Lt wq => (Z7.out.tr (LL m)).r.c1
  have q2 := fun m : Lt wq => (Z7.out.tr (LL m)).r.c2
  have q3 := fun m : Lt wq => (Z7.out.tr (LL m)).r.c3
  have q4 := fun m : Lt wq => (Z7.out.tr (LL m)).r.c4
  have q5 := fun m : Lt wq => (Z7.out.tr (LL m)).r.c5
  have q6 := fun m : Lt wq => (Z7.out.tr (LL m)).r.c6
  have q7 := fun m : Lt wq => (Z7.out.tr (LL m)).r.c7
  have ql := fun m : Lt wq => (Z7.out.tr (LL m)).r.lt
  have t0 := fun m : Lt wq => (NcAt.cells (Z7.out.tr (LL m)).c).1
  have t1 := fun m : Lt wq => (NcAt.cells (Z7.out.tr (LL m)).c).2.1
  have t2 := fun m : Lt wq => (NcAt.cells (Z7.out.tr (LL m)).c).2.2.1
  have t3 := fun m : Lt wq => (NcAt.cells (Z7.out.tr (LL m)).c).2.2.2.1
  have t4 := fun m : Lt wq => (NcAt.cells (Z7.out.tr (LL m)).c).2.2.2.2.1
  have t5 := fun m : Lt wq => (NcAt.cells (Z7.out.tr (LL m)).c).2.2.2.2.2.1
  have t6 := fun m : Lt wq => (NcAt.cells (Z7.out.tr (LL m)).c).2.2.2.2.2.2.1
  have t7 := fun m : Lt wq => (NcAt.cells (Z7.out.tr (LL m)).c).2.2.2.2.2.2.2.1
  have t8 := fun m : Lt wq => (NcAt.cells (Z7.out.tr (LL m)).c).2.2.2.2.2.2.2.2.1
  have t9 := fun m : Lt wq => (NcAt.cells (Z7.out.tr (LL m)).c).2.2.2.2.2.2.2.2.2.1
  have t10 := fun m : Lt wq => (NcAt.cells (Z7.out.tr (LL m)).c).2.2.2.2.2.2.2.2.2.2
  have tl := fun m : Lt wq => NcAt.lt (Z7.out.tr (LL m)).c
  have x0 := fun m : Lt wq => (HTA7.out.ext (LL m)).c0
  have x1 := fun m : Lt wq => (HTA7.out.ext (LL m)).c1
  have x2 := fun m : Lt wq => (HTA7.out.ext (LL m)).c2
  have x3 := fun m : Lt wq => (HTA7.out.ext (LL m)).c3
  have x4 := fun m : Lt wq => (HTA7.out.ext (LL m)).c4
  have x5 := fun m : Lt wq => (HTA7.out.ext (LL m)).c5
  have x6 := fun m : Lt wq => (HTA7.out.ext (LL m)).c6
  have x7 := fun m : Lt wq => (HTA7.out.ext (LL m)).c7
  have xl := fun m : Lt wq => (HTA7.out.ext (LL m)).lt
  have y0 := fun m : Lt wq => (HTB7.out.ext (LL m)).c0
  have y1 := fun m : Lt wq => (HTB7.out.ext (LL m)).c1
  have y2 := fun m : Lt wq => (HTB7.out.ext (LL m)).c2
  have y3 := fun m : Lt wq => (HTB7.out.ext (LL m)).c3
  have y4 := fun m : Lt wq => (HTB7.out.ext (LL m)).c4
  have y5 := fun m : Lt wq => (HTB7.out.ext (LL m)).c5
  have y6 := fun m : Lt wq => (HTB7.out.ext (LL m)).c6
  have y7 := fun m : Lt wq => (HTB7.out.ext (LL m)).c7
  have yl := fun m : Lt wq => (HTB7.out.ext (LL m)).lt
  repeat (refine Gd.wpX_pure (by first | exact trivial | exact ⟨_, rfl, rfl, rfl⟩) rfl rfl rfl rfl rfl (fun K hK => ?_); go_big_quiet_op; refine hK _ ?_; clear hK K)
  refine Gd.wpX_callFn (by first | exact trivial | exact ⟨_, rfl, rfl, rfl⟩) (.bool true) (args := []) rfl rfl rfl rfl (by kernel_rfl) rfl rfl (fun m => (HAW.out m.1 (LW m)).mono fun _ _ ⟨h1, h2⟩ => ⟨h1, h2⟩) ?_
  simp only [Act.put, List.setIfInBounds_toArray, List.set_cons_zero, List.set_cons_succ]
  try simp only [beq_self_eq_true]
  repeat (refine Gd.wpX_pure (by first | exact trivial | exact ⟨_, rfl, rfl, rfl⟩) rfl rfl rfl rfl rfl (fun K hK => ?_); go_big_quiet_op; refine hK _ ?_; clear hK K)
  try simp only [beq_self_eq_true]
  repeat (refine Gd.wpX_pure (by first | exact trivial | exact ⟨_, rfl, rfl, rfl⟩) rfl rfl rfl rfl rfl (fun K hK => ?_); go_big_quiet_op; refine hK _ ?_; clear hK K)
  refine Gd.wpX_callFn (by first | exact trivial | exact ⟨_, rfl, rfl, rfl⟩) (.int .i64 (ckR r)) (args := [.agg #[.string (bstr r.st), .int .i64 r.num, .int .i64 r.day, .int .i64 r.nxt, .slice A r.ser.length cq, .int .i64 r.iss, .int .i64 r.e, .int .i64 r.s]]) rfl rfl rfl rfl (by kernel_rfl) rfl rfl (fun m => (HC1.out m.1 (LW m)).mono fun _ _ ⟨h1, h2⟩ => ⟨h1, h2⟩) ?_
  simp only [Act.put, List.setIfInBounds_toArray, List.set_cons_zero, List.set_cons_succ]
  try simp only [beq_self_eq_true]
  repeat (refine Gd.wpX_pure (by first | exact trivial | exact ⟨_, rfl, rfl, rfl⟩) rfl rfl rfl rfl rfl (fun K hK => ?_); go_big_quiet_op; refine hK _ ?_; clear hK K)
  try simp only [beq_self_eq_true]
  repeat (refine Gd.wpX_pure (by first | exact trivial | exact ⟨_, rfl, rfl, rfl⟩) rfl rfl rfl rfl rfl (fun K hK => ?_); go_big_quiet_op; refine hK _ ?_; clear hK K)
  refine Gd.wpX_callFn (by first | exact trivial | exact ⟨_, rfl, rfl, rfl⟩) (.int .i64 (ckR r)) (args := [.agg #[.string (bstr r.st), .int .i64 r.num, .int .i64 r.day, .int .i64 r.nxt, .slice A r.ser.length cq, .int .i64 r.iss, .int .i64 r.e, .int .i64 r.s]]) rfl rfl rfl rfl (by kernel_rfl) rfl rfl (fun m => (HC2.out m.1 (LW m)).mono fun _ _ ⟨h1, h2⟩ => ⟨h1, h2⟩) ?_
  simp only [Act.put, List.setIfInBounds_toArray, List.set_cons_zero, List.set_cons_succ]
  try simp only [beq_self_eq_true]
  repeat (refine Gd.wpX_pure (by first | exact trivial | exact ⟨_, rfl, rfl, rfl⟩) rfl rfl rfl rfl rfl (fun K hK => ?_); go_big_quiet_op; refine hK _ ?_; clear hK K)
  try simp only [beq_self_eq_true]
  repeat (refine Gd.wpX_pure (by first | exact trivial | exact ⟨_, rfl, rfl, rfl⟩) rfl rfl rfl rfl rfl (fun K hK => ?_); go_big_quiet_op; refine hK _ ?_; clear hK K)
  refine Gd.wpX_convK (by first | exact trivial | exact ⟨_, rfl, rfl, rfl⟩) (.string (bstr (byR r))) (.slice A2 n2 c2) rfl rfl rfl rfl rfl (fun m => run_strU (R27.out.ext (LL m))) ?_
  simp only [Act.put, List.setIfInBounds_toArray, List.set_cons_zero, List.set_cons_succ]
  repeat (refine Gd.wpX_pure (by first | exact trivial | exact ⟨_, rfl, rfl, rfl⟩) rfl rfl rfl rfl rfl (fun K hK => ?_); go_big_quiet_op; refine hK _ ?_; clear hK K)
  refine Gd.wpX_convK (by first | exact trivial | exact ⟨_, rfl, rfl, rfl⟩) (.string (bstr (byR r))) (.slice A3 n3 c3) rfl rfl rfl rfl rfl (fun m => run_strU (R37.out.ext (LL m))) ?_
  simp only [Act.put, List.setIfInBounds_toArray, List.set_cons_zero, List.set_cons_succ]
  try simp only [beq_self_eq_true]
  repeat (refine Gd.wpX_pure (by first | exact trivial | exact ⟨_, rfl, rfl, rfl⟩) rfl rfl rfl rfl rfl (fun K hK => ?_); go_big_quiet_op; refine hK _ ?_; clear hK K)
  try simp only [beq_self_eq_true]
  repeat (refine Gd.wpX_pure (by first | exact trivial | exact ⟨_, rfl, rfl, rfl⟩) rfl rfl rfl rfl rfl (fun K hK => ?_); go_big_quiet_op; refine hK _ ?_; clear hK K)
  refine Gd.wpX_callFn (by first | exact trivial | exact ⟨_, rfl, rfl, rfl⟩) (.bool true) (args := [rvV ir (.slice A4 n4 c4), rvV ir (.slice A6 n6 c6)]) rfl rfl rfl rfl (by kernel_rfl) rfl rfl (fun m => (HSM.out m.1 (HOA7.out.ext (LL m)) (HOB7.out.ext (LL m))).mono fun _ _ ⟨h1, h2⟩ => ⟨h1, h2⟩) ?_
  simp only [Act.put, List.setIfInBounds_toArray, List.set_cons_zero, List.set_cons_succ]
  try simp only [beq_self_eq_true]
  repeat (refine Gd.wpX_pure (by first | exact trivial | exact ⟨_, rfl, rfl, rfl⟩) rfl rfl rfl rfl rfl (fun K hK => ?_); go_big_quiet_op; refine hK _ ?_; clear hK K)
  try simp only [beq_self_eq_true]
  repeat (refine Gd.wpX_pure (by first | exact trivial | exact ⟨_, rfl, rfl, rfl⟩) rfl rfl rfl rfl rfl (fun K hK => ?_); go_big_quiet_op; refine hK _ ?_; clear hK K)
  refine Gd.wpX_callFn (by first | exact trivial | exact ⟨_, rfl, rfl, rfl⟩) (.bool (revB S.rs c.st c.num)) (args := [.agg #[.slice s0.1 s0.2.1 s0.2.2, .slice s1.1 s1.2.1 s1.2.2, .slice s2.1 s2.2.1 s2.2.2, .slice s3.1 s3.2.1 s3.2.2, .slice s4.1 s4.2.1 s4.2.2], ncV c]) rfl rfl rfl rfl (by kernel_rfl) rfl rfl (fun m => (HV1.out m.1 (LW m)).mono fun _ _ ⟨h1, h2⟩ => ⟨h1, h2⟩) ?_
  simp only [Act.put, List.setIfInBounds_toArray, List.set_cons_zero, List.set_cons_succ]
  try simp only [beq_self_eq_true]
  repeat (refine Gd.wpX_pure (by first | exact trivial | exact ⟨_, rfl, rfl, rfl⟩) rfl rfl rfl rfl rfl (fun K hK => ?_); go_big_quiet_op; refine hK _ ?_; clear hK K)
  try simp only [beq_self_eq_true]
  repeat (refine Gd.wpX_pure (by first | exact trivial | exact ⟨_, rfl, rfl, rfl⟩) rfl rfl rfl rfl rfl (fun K hK => ?_); go_big_quiet_op; refine hK _ ?_; clear hK K)
  refine Gd.wpX_callFn (by first | exact trivial | exact ⟨_, rfl, rfl, rfl⟩) (.bool (revB S.rs c.st c.num)) (args := [.agg #[.slice s0.1 s0.2.1 s0.2.2, .slice s1.1 s1.2.1 s1.2.2, .slice s2.1 s2.2.1 s2.2.2, .slice s3.1 s3.2.1 s3.2.2, .slice s4.1 s4.2.1 s4.2.2], ncV c]) rfl rfl rfl rfl (by kernel_rfl) rfl rfl (fun m => (HV2.out m.1 (LW m)).mono fun _ _ ⟨h1, h2⟩ => ⟨h1, h2⟩) ?_
  simp only [Act.put, List.setIfInBounds_toArray, List.set_cons_zero, List.set_cons_succ]
  try simp only [beq_self_eq_true]
  repeat (refine Gd.wpX_pure (by first | exact trivial | exact ⟨_, rfl, rfl, rfl⟩) rfl rfl rfl rfl rfl (fun K hK => ?_); go_big_quiet_op; refine hK _ ?_; clear hK K)
  try simp only [beq_self_eq_true]
  repeat (refine Gd.wpX_pure (by first | exact trivial | exact ⟨_, rfl, rfl, rfl⟩) rfl rfl rfl rfl rfl (fun K hK => ?_); go_big_quiet_op; refine hK _ ?_; clear hK K)
  refine Gd.wpX_callFn (by first | exact trivial | exact ⟨_, rfl, rfl, rfl⟩) (.bool (frR S.rs c.st day)) (args := [.agg #[.slice s0.1 s0.2.1 s0.2.2, .slice s1.1 s1.2.1 s1.2.2, .slice s2.1 s2.2.1 s2.2.2, .slice s3.1 s3.2.1 s3.2.2, .slice s4.1 s4.2.1 s4.2.2], .string (bstr c.st), .int .i64 day]) rfl rfl rfl rfl (by kernel_rfl) rfl rfl (fun m => (HF1.out m.1 (LW m)).mono fun _ _ ⟨h1, h2⟩ => ⟨h1, h2⟩) ?_
  simp only [Act.put, List.setIfInBounds_toArray, List.set_cons_zero, List.set_cons_succ]
  try simp only [beq_self_eq_true]
  repeat (refine Gd.wpX_pure (by first | exact trivial | exact ⟨_, rfl, rfl, rfl⟩) rfl rfl rfl rfl rfl (fun K hK => ?_); go_big_quiet_op; refine hK _ ?_; clear hK K)
  try simp only [beq_self_eq_true]
  repeat (refine Gd.wpX_pure (by first | exact trivial | exact ⟨_, rfl, rfl, rfl⟩) rfl rfl rfl rfl rfl (fun K hK => ?_); go_big_quiet_op; refine hK _ ?_; clear hK K)
  refine Gd.wpX_callFn (by first | exact trivial | exact ⟨_, rfl, rfl, rfl⟩) (.bool (frR S.rs c.st day)) (args := [.agg #[.slice s0.1 s0.2.1 s0.2.2, .slice s1.1 s1.2.1 s1.2.2, .slice s2.1 s2.2.1 s2.2.2, .slice s3.1 s3.2.1 s3.2.2, .slice s4.1 s4.2.1 s4.2.2], .string (bstr c.st), .int .i64 day]) rfl rfl rfl rfl (by kernel_rfl) rfl rfl (fun m => (HF2.out m.1 (LW m)).mono fun _ _ ⟨h1, h2⟩ => ⟨h1, h2⟩) ?_
  simp only [Act.put, List.setIfInBounds_toArray, List.set_cons_zero, List.set_cons_succ]
  try simp only [beq_self_eq_true]
  repeat (refine Gd.wpX_pure (by first | exact trivial | exact ⟨_, rfl, rfl, rfl⟩) rfl rfl rfl rfl rfl (fun K hK => ?_); go_big_quiet_op; refine hK _ ?_; clear hK K)
  try simp only [beq_self_eq_true]
  refine Gd.wpX_end0 (fun m => ?_)
  have LM := Lib.hid (LW m)
  clear hw1 LL LW p0 p1 p2 p3 p4 pl q0 q1 q2 q3 q4 q5 q6 q7 ql t0 t1 t2 t3 t4 t5 t6 t7 t8 t9 t10 tl x0 x1 x2 x3 x4 x5 x6 x7 xl y0 y1 y2 y3 y4 y5 y6 y7 yl
  generalize m.1 = wm at *
  show wpList _ _ _ _ _ _
  go_wp2_with fail
  go_ret
  exact ⟨by simp, LM.out⟩
end Go.Proofs.YtkjplpmogfmhkaaGreatDoor
