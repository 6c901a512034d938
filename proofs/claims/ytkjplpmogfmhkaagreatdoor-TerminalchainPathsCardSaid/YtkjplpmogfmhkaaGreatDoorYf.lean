/- Layer 25: the reference's Learn. -/
import Derived.Test.YtkjplpmogfmhkaaGreatDoorPkw
namespace Go.Proofs.YtkjplpmogfmhkaaGreatDoor
open Go.RowKit
set_option linter.unusedVariables false
set_option maxRecDepth 100000

theorem rowOf_none0 (A : Option Addr) : rowOf (.slice A 0 0) = none := by cases A <;> rfl
theorem grown_none {w w' : World} (h : w.grownBy w' none) : Ext w w' := ⟨h.os, h.tape, h.output, h.size, fun k hk => h.block k hk (by simp)⟩
theorem run_buildT0 (W : World) : (Instr.buildSlice 22 0 ([] : List (Nat × Value)).toArray).run Tryz.prog W = .ok (.slice (some ⟨W.heap.size, 0, none⟩) 0 0) (W.alloc (.cells #[] 139)) := by go_simp
theorem run_appT0 {W : World} {ty : TypeId} {v src : Value} {l : List TP} {B : Nat} (hB : B ≤ W.heap.size) (hv : ∃ A, v = .slice A 0 0) (hs : RdT W src l) (hl : l.length ≤ 2000000000000) :
    ∃ v' w'', (Builtin.append_ #[22, 22] ty #[v, src]).run Tryz.prog W = .ok v' w'' ∧ Ext W w'' ∧ GT B l v' w'' := by
  obtain ⟨A, rfl⟩ := hv
  obtain ⟨A2, c2, w2, h1, h2, h3, h4⟩ := run_appKR (ty := ty) (k := 5) (by decide) elemTp (n := 0) (m := l.length) (OwnK.empty W B 139 5 A) rfl hs (by rw [tpsCells_len]) (tpsCells_one l) (by omega) (by unfold maxLen; omega) hB
  rw [rowOf_none0] at h3
  exact ⟨_, w2, h1, grown_none h3, A2, _, c2, rfl, (show _ = _ by rw [Nat.zero_add]), by simpa using h2⟩
/-- The end of the reference's Learn, where the first point is dropped. -/
theorem row_drop {w : World} {bb n1 c1 q B : Nat} {xs : List Value} (h : RdK w 5 (.slice (some ⟨bb, 0, none⟩) n1 c1) xs) (h1 : 1 ≤ n1) (hge : ∀ r, rowOf (.slice (some ⟨bb, 0, none⟩) n1 c1) = some r → B ≤ r) (hq : rowOf (.slice (some ⟨bb, 5, none⟩) (n1 - 1) (c1 - 1)) = some q) : B ≤ q := by
  obtain ⟨A9, n9, c9, e9, h9, h8, h7, h6⟩ := h
  injection e9 with e1 e2 e3
  obtain ⟨cc, rfl⟩ : ∃ cc, c1 = cc + 1 := ⟨c1 - 1, by omega⟩
  have h5 := hge bb (by simp [rowOf])
  have h6 : bb = q := by
    cases cc with
    | zero => simp [rowOf] at hq
    | succ cc => simpa [rowOf] using hq
  omega
theorem LnS.finDrop {w wr : World} {A : Option Addr} {n c : Nat} {d : Int} {b : CH} {x : TC} {cb : Nat} {bb n1 c1 : Nat} {d1 : Int} {l1 : List TP} {A0 : Option Addr} {n0 c0 : Nat} {l0 : List TP} (h : LnS w wr A n c d b x cb A0 n0 c0 d1 l0)
    (hw : OwnK wr (w.heap.size + 4) 139 5 (.slice (some ⟨bb, 0, none⟩) n1 c1) (tpsCells l1)) (h1 : 1 ≤ n1) {t : TR} (ht : t = ⟨l1.drop 1, d1⟩) :
    LearnR w t (.returned (.agg #[.slice (some ⟨bb, 5, none⟩) (n1 - 1) (c1 - 1), .int .i64 d1])) (((wr.setCell ⟨cb, 0, none⟩ (.slice (some ⟨bb, 5, none⟩) (n1 - 1) (c1 - 1))).setCell ⟨w.heap.size + 3, 0, none⟩ (.slice (some ⟨bb, 5, none⟩) (n1 - 1) (c1 - 1))).setCell ⟨w.heap.size + 3, 1, none⟩ (.int .i64 d1)) := by
  subst ht
  have hcb := h.cb
  have o1 := hw.poke h.o tp_ne_tr 0 (.slice (some ⟨bb, 5, none⟩) (n1 - 1) (c1 - 1))
  have z1 := h.z.gb (Gb.set cb 0 wr (.slice (some ⟨bb, 5, none⟩) (n1 - 1) (c1 - 1))) hcb
  have T2 := z1.r.setPs (A' := some ⟨bb, 5, none⟩) (n' := n1 - 1) (c' := c1 - 1)
  have o2 := (o1.poke z1.r tp_ne_tr 0 _).poke T2 tp_ne_tr 1 (.int .i64 d1)
  have r := RdT.drop1 o2.rd h1
  rw [Nat.zero_add] at r
  refine ⟨ext_set (ext_set z1.ext (by omega)) (by omega), _, _, _, rfl, r, fun A' n' c' hv hn => ?_⟩
  injection hv with e1 e2 e3
  obtain ⟨b', o', q1, q2⟩ := (o2.safe 0).2 _ _ _ rfl (by omega)
  injection q1 with q1
  injection q1 with q1 _
  subst q1
  exact ⟨_, _, e1.symm, q2⟩
theorem LnS.finDropCells {w wr : World} {A : Option Addr} {n c : Nat} {d : Int} {b : CH} {x : TC} {cb : Nat} {d1 : Int} {A0 : Option Addr} {n0 c0 : Nat} {l0 : List TP} (h : LnS w wr A n c d b x cb A0 n0 c0 d1 l0) (A1 : Option Addr) (n1 c1 : Nat) :
    (((wr.setCell ⟨cb, 0, none⟩ (.slice A1 n1 c1)).setCell ⟨w.heap.size + 3, 0, none⟩ (.slice A1 n1 c1)).setCell ⟨w.heap.size + 3, 1, none⟩ (.int .i64 d1)).cell? ⟨w.heap.size + 3, 0, none⟩ = some (.slice A1 n1 c1) ∧ (((wr.setCell ⟨cb, 0, none⟩ (.slice A1 n1 c1)).setCell ⟨w.heap.size + 3, 0, none⟩ (.slice A1 n1 c1)).setCell ⟨w.heap.size + 3, 1, none⟩ (.int .i64 d1)).cell? ⟨w.heap.size + 3, 1, none⟩ = some (.int .i64 d1) := by
  have z1 := h.z.gb (Gb.set cb 0 wr (.slice A1 n1 c1)) h.cb
  have T2 := z1.r.setPs (A' := A1) (n' := n1) (c' := c1)
  exact (T2.setDt d1).cells
set_option maxHeartbeats 8000000 in
theorem reflearn25_any {v : Value} (t : TR) (b : CH) (x : TC) (w : World) (hv : TrR w v t) (hs : smR t.ps) (hx : smT x) (hl : t.ps.length ≤ 1000000000000) : Calls Tryz.prog 109 #[v, chV b, tcV x] w (LearnR w (learnT t b x)) := by
  have HV := Lib.hid (fun W (e : Ext w W) => refvalid25_any t W (hv.ext e) hs)
  obtain ⟨A, n, c, rfl, hr⟩ := hv
  obtain ⟨l, dt⟩ := t
  have HRT := Lib.hid hr
  obtain ⟨An, nn, cn, en, hnl0, hnc0, hcm0, hel0⟩ := RdT.at_ hr
  injection en with en1 en2 en3
  subst en1 en2 en3
  have HN0 := Lib.hid (show n = l.length from hnl0)
  unfold maxLen at hcm0
  have HEL0 := Lib.hid hel0
  obtain ⟨wz, hwz, zz⟩ := ln_alloc w A n c dt b x
  have HX := Lib.hid hx
  have HL := Lib.hid (show l.length ≤ 1000000000000 from hl)
  have hle : n ≤ 9223372036854775807 := by omega
  clear hr hs hx hl hnl0 hel0
  unfold chV tcV
  go_enter Tryz.func109, Tryz.ntmps109
  go_wp2_with fail
  rw [← hwz]
  clear hwz
  refine Gd.wp_region_X 8 (by kernel_rfl) (by kernel_rfl) ?_
  simp only [List.take_succ_cons, List.take_zero, List.drop_succ_cons, List.drop_zero]
  intro wq hw1
  have LL : ∀ m : Lt wq, Ext wz m.1 := fun m => hw1.tr m.2
  have g1 : ∀ m : Lt wq, m.1.cell? ⟨w.heap.size, 0, none⟩ = some (.slice A n c) := fun m => ((zz.t.ext (LL m)).cells).1
  have g2 : ∀ m : Lt wq, m.1.cell? ⟨w.heap.size, 1, none⟩ = some (.int .i64 dt) := fun m => ((zz.t.ext (LL m)).cells).2
  refine Gd.wpX_buildSL (by first | exact trivial | exact ⟨_, rfl, rfl, rfl⟩) (fun v _ => ∃ A, v = .slice A 0 0) (fun v w w' _ h => h) (fun _ => []) rfl rfl rfl rfl rfl (fun _ => rfl) (fun m f hf => ⟨_, _, run_buildT0 m.1, (Below.refl _ _).alloc (Nat.le_refl _) _, _, rfl⟩) ?_
  simp only [Act.put, List.setIfInBounds_toArray, List.set_cons_zero, List.set_cons_succ]
  repeat (refine Gd.wpX_pure (by first | exact trivial | exact ⟨_, rfl, rfl, rfl⟩) rfl rfl rfl rfl rfl (fun K hK => ?_); go_big_quiet_op; refine hK _ ?_; clear hK K)
  refine Gd.wpX_appF (by first | exact trivial | exact ⟨_, rfl, rfl, rfl⟩) (GT wz.heap.size l) (stable_GT _ _) (fun f => f 11) (fun _ => .slice A n c) rfl rfl rfl rfl rfl rfl (fun f => rfl) (fun f => rfl) (fun m f hf => run_appT0 (LL m).size (hf 11 _ rfl rfl) (HRT.out.ext (zz.ext.tr (LL m))) (by have := HL.out; omega)) ?_
  simp only [Act.put, List.setIfInBounds_toArray, List.set_cons_zero, List.set_cons_succ]
  repeat (refine Gd.wpX_pure (by first | exact trivial | exact ⟨_, rfl, rfl, rfl⟩) rfl rfl rfl rfl rfl (fun K hK => ?_); go_big_quiet_op; refine hK _ ?_; clear hK K)
  refine Gd.wpX_buildL (by first | exact trivial | exact ⟨_, rfl, rfl, rfl⟩) (GTr wz.heap.size l dt) (stable_GTr _ _ _) (fun f => [(0, f 14), (1, .int .i64 dt)]) rfl rfl rfl rfl rfl (fun f => rfl) (fun m f hf => by obtain ⟨A1, n1, c1, h1, h2, h3⟩ := hf 14 _ rfl rfl; rw [h1]; exact ⟨_, _, run_buildTr m.1 A1 n1 c1 dt, Below.refl _ _, A1, n1, c1, rfl, h2, h3⟩) ?_
  simp only [Act.put, List.setIfInBounds_toArray, List.set_cons_zero, List.set_cons_succ]
  refine Gd.wpX_allocTr (by first | exact trivial | exact ⟨_, rfl, rfl, rfl⟩) rfl rfl rfl rfl ?_
  simp only [Act.put, List.setIfInBounds_toArray, List.set_cons_zero, List.set_cons_succ]
  refine Gd.wpX_endL (fun m f hf => ?_)
  obtain ⟨A1, n1, c1, e16, hn1, ow1⟩ := hf 17 _ rfl
  obtain ⟨cb, e7, hcb, TO⟩ := hf 7 _ rfl
  simp only [fillH]
  simp only [Act.put, List.setIfInBounds_toArray, List.set_cons_zero, List.set_cons_succ]
  rw [e16, e7]
  have Lm := LL m
  have hw15 := hw1.size
  obtain ⟨wm, hwm⟩ := m
  have Lm : Ext wz wm := Lm
  have TO : TrAt wm cb none 0 0 0 := TO
  have ow1 : OwnK wm wz.heap.size 139 5 (.slice A1 n1 c1) (tpsCells l) := ow1
  generalize f 11 = f11 at *
  generalize f 14 = f14 at *
  generalize f 17 = f17 at *
  have hcb2 : wz.heap.size ≤ cb := Nat.le_trans hw15 hcb
  have hzl := zz.r.lt
  have hcb3 : w.heap.size + 3 < cb := by omega
  have ZM := zz.tr Lm
  clear LL g1 g2 hf e16 e7 hw15 hcb
  obtain ⟨wn, hwn, S0⟩ : ∃ wn, wn = (wm.setCell ⟨cb, 0, none⟩ (.slice A1 n1 c1)).setCell ⟨cb, 1, none⟩ (.int .i64 dt) ∧ LnS w wn A n c dt b x cb A1 n1 c1 dt l := by
    refine ⟨_, rfl, (ZM.gb (Gb.set cb 0 wm _) hcb3).gb (Gb.set cb 1 _ _) hcb3, TO.setPs.setDt dt, ((ow1.poke TO tp_ne_tr 0 _).poke TO.setPs tp_ne_tr 1 _).mono ?_, hcb3, hn1⟩
    omega
  obtain ⟨o0, o1⟩ := TO.cells
  have of0 := TO.frozen 0
  have of1 := TO.frozen 1
  have ol := TO.lt
  show wpList _ _ _ _ _ _
  go_upto_region 2 with fail
  rw [← hwn]
  clear hwn o0 o1 of0 of1 ol TO ow1 hn1 ZM Lm hcb2 hzl zz
  obtain ⟨z0, z1⟩ := S0.z.t.cells
  have zl := S0.z.t.lt
  go_wp2_with fail
  refine (HV.out _ S0.z.ext).mono ?_
  rintro e w2 ⟨rfl, b2⟩
  have S2 := S0.tr b2
  clear z0 z1 zl S0
  by_cases hv : vdK ⟨l, dt⟩ = 0
  case neg =>
    have hb : (vdK ⟨l, dt⟩ != 0) = true := by simpa using hv
    have HE := Lib.hid (learn_bad1 (b := b) (x := x) hv)
    clear hv
    have FI := Lib.hid (S2.fin HE.out)
    have FC := Lib.hid S2.finCells
    obtain ⟨o0, o1⟩ := S2.o.cells
    have of0 := S2.o.frozen 0
    obtain ⟨r0, r1⟩ := S2.z.r.cells
    have rf0 := S2.z.r.frozen 0
    have rf1 := S2.z.r.frozen 1
    have ol := S2.o.lt
    have rl := S2.z.r.lt
    go_wp2_with fail
    refine bodyPost_ret (v := .agg #[.slice A1 n1 c1, .int .i64 dt]) ?_ rfl FI.out
    obtain ⟨q0, q1⟩ := FC.out
    simp [results, Tryz.results109, go_sem, q0, q1]
  case pos =>
  have HV0 := Lib.hid hv
  rw [hv]
  clear hv
  obtain ⟨x0, x1, x2, x3, x4, x5, x6, x7, x8⟩ := S2.z.x.cells
  have xl := S2.z.x.lt
  go_wp2_with fail
  refine (checkR_any x _ HX.out).mono ?_
  rintro e w3 ⟨rfl, b3⟩
  have S3 := S2.tr b3
  clear x0 x1 x2 x3 x4 x5 x6 x7 x8 xl S2
  by_cases hc : ckT x = 0
  case neg =>
    have hb : (ckT x != 0) = true := by simpa using hc
    have HE := Lib.hid (learn_bad2 (t := ⟨l, dt⟩) (b := b) hc)
    clear hc
    have FI := Lib.hid (S3.fin HE.out)
    have FC := Lib.hid S3.finCells
    obtain ⟨o0, o1⟩ := S3.o.cells
    have of0 := S3.o.frozen 0
    obtain ⟨r0, r1⟩ := S3.z.r.cells
    have rf0 := S3.z.r.frozen 0
    have rf1 := S3.z.r.frozen 1
    have ol := S3.o.lt
    have rl := S3.z.r.lt
    go_wp2_with fail
    refine bodyPost_ret (v := .agg #[.slice A1 n1 c1, .int .i64 dt]) ?_ rfl FI.out
    obtain ⟨q0, q1⟩ := FC.out
    simp [results, Tryz.results109, go_sem, q0, q1]
  case pos =>
  have HC0 := Lib.hid hc
  rw [hc]
  clear hc
  go_upto_region 4 with fail
  go_cut [34] from 27 to 33 (fun s34 wx => s34 = .bool (dtB b x) ∧ wx = w3)
  case first =>
    obtain ⟨-, -, -, x3, -⟩ := S3.z.x.cells
    have xl := S3.z.x.lt
    obtain ⟨-, -, y2, -⟩ := S3.z.b.cells
    have yl := S3.z.b.lt
    by_cases h1 : x.role = 4
    · by_cases h2 : b.role = 2
      · have HQ := Lib.hid (show dtB b x = true from decide_eq_true (.inr h2))
        have k1 : (x.role != 4) = false := by simp [h1]
        have k2 : (b.role == 2) = true := by simp [h2]
        clear h1 h2
        go_wp2_with fail
        go_meet
        exact ⟨by rw [HQ.out], rfl⟩
      · have HQ := Lib.hid (show dtB b x = false from decide_eq_false (fun q => q.elim (fun q => q h1) h2))
        have k1 : (x.role != 4) = false := by simp [h1]
        have k2 : (b.role == 2) = false := by simp [h2]
        clear h1 h2
        go_wp2_with fail
        go_meet
        exact ⟨by rw [HQ.out], rfl⟩
    · have HQ := Lib.hid (show dtB b x = true from decide_eq_true (.inl h1))
      have k1 : (x.role != 4) = true := by simp [h1]
      clear h1
      go_wp2_with fail
      go_meet
      exact ⟨by rw [HQ.out], rfl⟩
  case rest =>
  obtain ⟨rfl, rfl⟩ := hcut
  have S4 := S3
  clear S3
  go_upto_if 34 with fail
  go_cut [] from 34 to 40 (fun wx => LnS w wx A n c dt b x cb A1 n1 c1 (lnDt ⟨l, dt⟩ b x) l)
  case first =>
    cases hd : dtB b x with
    | true =>
      have hdt : lnDt ⟨l, dt⟩ b x = max dt x.fr := if_pos (of_decide_eq_true hd)
      have HDT := Lib.hid hdt
      clear hdt
      obtain ⟨o0, o1⟩ := S4.o.cells
      have of1 := S4.o.frozen 1
      obtain ⟨-, -, -, -, -, x5, -, -, -⟩ := S4.z.x.cells
      obtain ⟨z0, z1⟩ := S4.z.t.cells
      have zl := S4.z.t.lt
      have ol := S4.o.lt
      have xl := S4.z.x.lt
      have SD := Lib.hid (S4.setDt (max dt x.fr))
      go_wp2_with fail
      go_meet
      rw [HDT.out]
      exact SD.out
    | false =>
      have hdt : lnDt ⟨l, dt⟩ b x = dt := if_neg (of_decide_eq_false hd)
      have HDT := Lib.hid hdt
      clear hdt
      go_wp2_with fail
      go_meet
      rw [HDT.out]
      exact S4
  case rest =>
    have S5 := hcut
    clear hcut S4 HV
    obtain ⟨dd, hdd⟩ : ∃ dd, dd = lnDt ⟨l, dt⟩ b x := ⟨_, rfl⟩
    rw [← hdd] at S5
    have HDD := Lib.hid hdd
    clear hdd
    obtain ⟨-, -, -, x3, -⟩ := S5.z.x.cells
    have xl := S5.z.x.lt
    by_cases hr : x.role = 1
    case neg =>
      have hb : (x.role != 1) = true := by simpa using hr
      have HE := Lib.hid ((learn_date (t := ⟨l, dt⟩) (b := b) HV0.out HC0.out (.inl hr)).trans (by rw [← HDD.out]))
      clear hr
      have FI := Lib.hid (S5.fin HE.out)
      have FC := Lib.hid S5.finCells
      obtain ⟨o0, o1⟩ := S5.o.cells
      have of0 := S5.o.frozen 0
      obtain ⟨r0, r1⟩ := S5.z.r.cells
      have rf0 := S5.z.r.frozen 0
      have rf1 := S5.z.r.frozen 1
      have ol := S5.o.lt
      have rl := S5.z.r.lt
      go_wp2_with fail
      refine bodyPost_ret (v := .agg #[.slice A1 n1 c1, .int .i64 dd]) ?_ rfl FI.out
      obtain ⟨q0, q1⟩ := FC.out
      simp [results, Tryz.results109, go_sem, q0, q1]
    case pos =>
    have hb : (x.role != 1) = false := by simp [hr]
    have HR1 := Lib.hid hr
    clear hr
    obtain ⟨w5, rfl⟩ : ∃ w5 : World, w5 = wc := ⟨_, rfl⟩
    go_wp2_with fail
    clear x3 xl
    go_loopw [8] (fun i wr => ∃ k : Nat, k ≤ n ∧ i = .int .i64 (k : Int) ∧ Ext w5 wr ∧ Hid (∀ j u, j < k → l[j]? = some u → u.ho ≠ x.ho)) (fun i _ => n - (intOf i).toNat)
    case atStart => exact ⟨0, Nat.zero_le _, rfl, Below.refl _ _, Lib.hid (fun j u h => by omega)⟩
    case round =>
      obtain ⟨k, hk, rfl, bb, hall⟩ := hrel
      have SR := S5.tr bb
      obtain ⟨z0, z1⟩ := SR.z.t.cells
      have zl := SR.z.t.lt
      by_cases hlt : k < n
      · obtain ⟨p, hp⟩ : ∃ p, l[k]? = some p := ⟨_, List.getElem?_eq_getElem (by rw [← HN0.out]; exact hlt)⟩
        obtain ⟨b8, o8, rfl, hbl, hc⟩ := HEL0.out (by omega)
        obtain ⟨e0, _⟩ := hc k p hp
        have hbr : b8 < wr.heap.size := Nat.lt_of_lt_of_le hbl SR.z.ext.size
        have l0 := (SR.z.ext.cell (p := ⟨b8, o8 + k * 5, none⟩) hbl).trans e0
        have HP := Lib.hid hp
        have HBE := bstr_eq p.ho x.ho
        clear e0 hp hc
        have wi1 : IntKind.i64.wrap ((k : Int)) = (k : Int) := IntWalk.i64_in _ (by omega)
        have zi1 : (0 : Int) ≤ (k : Int) := by omega
        have li1 : (k : Int) < (n : Int) := by omega
        have ti1 : ((k : Int)).toNat = k := by omega
        go_wp2_with fail
        refine Gd.wp_region_X 9 (by kernel_rfl) (by kernel_rfl) ?_
        simp only [List.take_succ_cons, List.take_zero, List.drop_succ_cons, List.drop_zero]
        intro wq hw1
        have LL : ∀ m : Lt wq, Ext wr m.1 := fun m => hw1.tr m.2
        have g1 : ∀ m : Lt wq, m.1.cell? ⟨w.heap.size, 0, none⟩ = some (.slice (some ⟨b8, o8, none⟩) n c) := fun m => ((SR.z.t.ext (LL m)).cells).1
        have g2 : ∀ m : Lt wq, m.1.cell? ⟨b8, o8 + k * 5, none⟩ = some (.string (bstr p.ho)) := fun m => ((LL m).cell (p := ⟨b8, o8 + k * 5, none⟩) hbr).trans l0
        have g3 : ∀ m : Lt wq, m.1.cell? ⟨w.heap.size + 2, 1, none⟩ = some (.string (bstr x.ho)) := fun m => ((SR.z.x.ext (LL m)).cells).2.1
        by_cases hq : p.ho = x.ho
        · have hb : ((bstr p.ho).toList == (bstr x.ho).toList) = true := by rw [HBE, decide_eq_true hq]
          have HE := Lib.hid ((learn_date (t := ⟨l, dt⟩) (b := b) HV0.out HC0.out (.inr (hasP_true (l := l) k (by rw [← HN0.out]; exact hlt) (by rw [(List.getElem?_eq_some_iff.1 HP.out).2]; exact hq)))).trans (by rw [← HDD.out]))
          clear HBE hq
          repeat (refine Gd.wpX_pure (by first | exact trivial | exact ⟨_, rfl, rfl, rfl⟩) rfl rfl rfl rfl rfl (fun K hK => ?_); go_big_quiet_op; refine hK _ ?_; clear hK K)
          refine Gd.wpX_end0 (fun m => ?_)
          have Lm := LL m
          obtain ⟨wm, hwm⟩ := m
          have Lm : Ext wr wm := Lm
          have S6 := SR.tr Lm
          clear LL g1 g2 g3
          show wpList _ _ _ _ _ _
          have FI := Lib.hid (S6.fin HE.out)
          have FC := Lib.hid S6.finCells
          obtain ⟨o0, o1⟩ := S6.o.cells
          have of0 := S6.o.frozen 0
          obtain ⟨r0, r1⟩ := S6.z.r.cells
          have rf0 := S6.z.r.frozen 0
          have rf1 := S6.z.r.frozen 1
          have ol := S6.o.lt
          have rl := S6.z.r.lt
          go_wp2_with fail
          refine bodyPost_ret (v := .agg #[.slice A1 n1 c1, .int .i64 dd]) ?_ rfl FI.out
          obtain ⟨q0, q1⟩ := FC.out
          simp [results, Tryz.results109, go_sem, q0, q1]
        · have hb : ((bstr p.ho).toList == (bstr x.ho).toList) = false := by rw [HBE, decide_eq_false hq]
          have HQ := Lib.hid hq
          clear HBE hq
          repeat (refine Gd.wpX_pure (by first | exact trivial | exact ⟨_, rfl, rfl, rfl⟩) rfl rfl rfl rfl rfl (fun K hK => ?_); go_big_quiet_op; refine hK _ ?_; clear hK K)
          refine Gd.wpX_end0 (fun m => ?_)
          have Lm := LL m
          obtain ⟨wm, hwm⟩ := m
          have Lm : Ext wr wm := Lm
          clear LL g1 g2 g3
          show wpList _ _ _ _ _ _
          go_wp2_with fail
          go_roundw
          case rel => exact ⟨k + 1, by omega, by go_num, bb.tr Lm, Lib.hid (fun i u hi hu => by
            by_cases h : i = k
            · subst h
              rw [HP.out] at hu
              rw [← Option.some.inj hu]; exact HQ.out
            · exact hall.out i u (by omega) hu)⟩
          case measure => simp [intOf]; omega
      · obtain rfl : n = k := by omega
        have S6 := SR
        have HE := Lib.hid (learn_kept (t := ⟨l, dt⟩) (b := b) (x := x) HV0.out HC0.out (by
          rintro (q | q)
          · exact q HR1.out
          · rw [show (⟨l, dt⟩ : TR).ps = l from rfl, hasP_false (fun j hj => hall.out j l[j] (by rw [HN0.out]; exact hj) (List.getElem?_eq_getElem hj))] at q
            cases q))
        clear hall hk hlt SR
        obtain ⟨x0, x1, x2, x3, x4, x5, x6, x7, x8⟩ := S6.z.x.cells
        have xl := S6.z.x.lt
        obtain ⟨y0, y1, y2, y3, y4, y5⟩ := S6.z.b.cells
        have yl := S6.z.b.lt
        obtain ⟨o0, o1⟩ := S6.o.cells
        have ol := S6.o.lt
        have of0 := S6.o.frozen 0
        obtain ⟨wa, hwa, xa, ta⟩ := tp_alloc wr (lnPt b x)
        have hwb := hwa.symm
        have RK : RdT wa (.slice (some ⟨wr.heap.size, 0, none⟩) 1 1) [lnPt b x] := by
          rw [hwa]
          exact RdK.lit wr 5 #[.string (bstr (lnPt b x).ho), .int .i64 (lnPt b x).key, .int .i64 (lnPt b x).rights, .int .i64 (lnPt b x).fr, .int .i64 (lnPt b x).to] 139 1 rfl (by unfold maxLen; omega)
        have SA := Lib.hid (S6.tr xa)
        have HOA := Lib.hid (S6.tr xa).own
        have HNX := Lib.hid (show n1 * 5 = (tpsCells l).length by rw [tpsCells_len, S6.len.out])
        have HN1 := Lib.hid (show n1 ≤ 1000000000000 by rw [S6.len.out]; exact HL.out)
        have HBS := Lib.hid (show w.heap.size + 4 ≤ wa.heap.size by have := (S6.tr xa).o.lt; have := S6.cb; omega)
        obtain ⟨a0, a1⟩ := (S6.tr xa).o.cells
        have af0 := (S6.tr xa).o.frozen 0
        have al := (S6.tr xa).o.lt
        have hwb' : wr.alloc (.cells #[.string (bstr x.ho), .int .i64 x.key, .int .i64 (andR x.rights b.rights), .int .i64 x.fr, .int .i64 x.to] 139) = wa := hwb
        unfold andR at hwb'
        clear hwa hwb xa ta
        go_wp2_with (refine wpList_appKR (k := 5) (by decide) elemTp (n := n1) (m := 1) HOA.out HNX.out RK rfl (tpsCells_one _) (Below.refl _ _) (by have := HN1.out; omega) (by have := HN1.out; unfold maxLen; omega) HBS.out rfl rfl rfl rfl ?_; intro A8 n8 c8 w6 hn8 o8 _ g8 h8; obtain ⟨Z7, T7⟩ := SA.out.gro g8; obtain ⟨k0, k1⟩ := T7.cells; have kf0 := T7.frozen 0; have kl := T7.lt)
        have hcb4 := SA.out.cb
        obtain ⟨wl, hwl, S7⟩ : ∃ wl, wl = w6.setCell ⟨cb, 0, none⟩ (.slice A8 n8 c8) ∧ LnS w wl A n c dt b x cb A8 n8 c8 dd (l ++ [lnPt b x]) := by
          refine ⟨_, rfl, LnS.mk2 Z7 T7 ?_ hcb4 ?_⟩
          · rw [← tpsCells_app]; exact o8
          · rw [hn8.out, List.length_append, SA.out.len.out]; rfl
        rw [← hwl]
        have HP7 := Lib.hid (show (l ++ [lnPt b x]).length = l.length + 1 by simp)
        have HKA := Lib.hid (show keptK (l ++ [lnPt b x]) dd (l.length + 1) = lnKept ⟨l, dt⟩ b x by rw [keptK_all]; unfold lnKept; rw [HDD.out])
        clear hwl hwb' RK SA HOA HNX HN1 HBS a0 a1 af0 al x0 x1 x2 x3 x4 x5 x6 x7 x8 xl y0 y1 y2 y3 y4 y5 yl o0 o1 ol of0 k0 k1 kf0 kl Z7 T7 o8 g8 h8 hn8 S6 HRT S5 bb z0 z1 zl HEL0
        generalize l ++ [lnPt b x] = pts at *
        obtain rfl : n8 = pts.length := S7.len.out
        obtain ⟨A', n', c', e, hnl, hnc, hcm, hel⟩ := RdT.at_ S7.own.rd
        injection e with e1 e2 e3
        subst e1 e2 e3
        unfold maxLen at hcm
        have HEL := Lib.hid hel
        have HPL := Lib.hid (show pts.length ≤ 1000000000001 by rw [HP7.out]; have h2 := HL.out; omega)
        have hpl : pts.length ≤ 9223372036854775807 := by omega
        clear hel hnl
        go_loopw [9, 10] (fun kv i wr => ∃ k : Nat, k ≤ pts.length ∧ i = .int .i64 (k : Int) ∧ Ext wl wr ∧ ∃ A3 n3 c3, kv = .slice A3 n3 c3 ∧ Hid (n3 = (keptK pts dd k).length) ∧ OwnK wr wl.heap.size 139 5 (.slice A3 n3 c3) (tpsCells (keptK pts dd k))) (fun _ i _ => pts.length - (intOf i).toNat)
        case atStart => exact ⟨0, Nat.zero_le _, rfl, Below.refl _ _, none, 0, 0, rfl, rfl, OwnK.empty _ _ _ _ _⟩
        case round =>
          obtain ⟨k, hk, rfl, xr, A3, n3, c3, rfl, kn, kow0⟩ := hrel
          have kow := Lib.hid kow0
          clear kow0
          have SR := S7.tr xr
          have HNX := Lib.hid (show n3 * 5 = (tpsCells (keptK pts dd k)).length by rw [tpsCells_len, kn.out])
          have HN3 := Lib.hid (show n3 ≤ 1000000000001 by have h1 := keptK_len pts dd k; have h2 := HPL.out; have h3 := kn.out; omega)
          obtain ⟨o0, o1⟩ := SR.o.cells
          have ol := SR.o.lt
          by_cases hlt : k < pts.length
          · obtain ⟨p, hp⟩ : ∃ p, pts[k]? = some p := ⟨_, List.getElem?_eq_getElem hlt⟩
            obtain ⟨b8, o8, rfl, hbl, hc⟩ := HEL.out (by omega)
            obtain ⟨e0, e1, e2, e3, e4⟩ := hc k p hp
            have HP := Lib.hid hp
            have hbr : b8 < wr.heap.size := Nat.lt_of_lt_of_le hbl xr.size
            have l0 := (xr.cell (p := ⟨b8, o8 + k * 5, none⟩) hbl).trans e0
            have l1 := (xr.cell (p := ⟨b8, o8 + k * 5 + 1, none⟩) hbl).trans e1
            have l2 := (xr.cell (p := ⟨b8, o8 + k * 5 + 2, none⟩) hbl).trans e2
            have l3 := (xr.cell (p := ⟨b8, o8 + k * 5 + 3, none⟩) hbl).trans e3
            have l4 := (xr.cell (p := ⟨b8, o8 + k * 5 + 4, none⟩) hbl).trans e4
            clear e0 e1 e2 e3 e4 hp hc
            have wi2 : IntKind.i64.wrap ((k : Int)) = (k : Int) := IntWalk.i64_in _ (by omega)
            have zi2 : (0 : Int) ≤ (k : Int) := by omega
            have li2 : (k : Int) < (pts.length : Int) := by omega
            have ti2 : ((k : Int)).toNat = k := by omega
            go_wp2_with fail
            refine Gd.wp_region_X 17 (by kernel_rfl) (by kernel_rfl) ?_
            simp only [List.take_succ_cons, List.take_zero, List.drop_succ_cons, List.drop_zero]
            intro wq hw1
            have LL : ∀ m : Lt wq, Ext wr m.1 := fun m => hw1.tr m.2
            have g1 : ∀ m : Lt wq, m.1.cell? ⟨cb, 0, none⟩ = some (.slice (some ⟨b8, o8, none⟩) pts.length c8) := fun m => ((SR.o.ext (LL m)).cells).1
            have g2 : ∀ m : Lt wq, m.1.cell? ⟨cb, 1, none⟩ = some (.int .i64 dd) := fun m => ((SR.o.ext (LL m)).cells).2
            have g3 : ∀ m : Lt wq, m.1.cell? ⟨b8, o8 + k * 5 + 4, none⟩ = some (.int .i64 p.to) := fun m => ((LL m).cell (p := ⟨b8, o8 + k * 5 + 4, none⟩) hbr).trans l4
            by_cases hA : k + 1 = pts.length
            · have hb : ((k : Int) == (pts.length : Int) - 1) = true := by simp; omega
              have HKS := Lib.hid ((keptK_step (l := pts) (d := dd) HP.out).trans (if_pos (.inl hA)))
              clear hA
              repeat (first | (refine Gd.wpX_skip (by exact ⟨_, rfl, rfl, rfl⟩) rfl rfl ?_; simp only [Act.put, List.setIfInBounds_toArray, List.set_cons_zero, List.set_cons_succ]) | (refine Gd.wpX_pure (by first | exact trivial | exact ⟨_, rfl, rfl, rfl⟩) rfl rfl rfl rfl rfl (fun K hK => ?_); go_big_quiet_op; refine hK _ ?_; clear hK K))
              refine Gd.wpX_end0 (fun m => ?_)
              have Lm := LL m
              obtain ⟨wm, hwm⟩ := m
              have Lm : Ext wr wm := Lm
              have m0 := (Lm.cell (p := ⟨b8, o8 + k * 5, none⟩) hbr).trans l0
              have m1 := (Lm.cell (p := ⟨b8, o8 + k * 5 + 1, none⟩) hbr).trans l1
              have m2 := (Lm.cell (p := ⟨b8, o8 + k * 5 + 2, none⟩) hbr).trans l2
              have m3 := (Lm.cell (p := ⟨b8, o8 + k * 5 + 3, none⟩) hbr).trans l3
              have m4 := (Lm.cell (p := ⟨b8, o8 + k * 5 + 4, none⟩) hbr).trans l4
              obtain ⟨v0, v1⟩ := (SR.o.ext Lm).cells
              have vl := (SR.o.ext Lm).lt
              have eA : Ext wm (wm.alloc (.cells #[.string (bstr p.ho), .int .i64 p.key, .int .i64 p.rights, .int .i64 p.fr, .int .i64 p.to] 139)) := (Below.refl _ _).alloc (Nat.le_refl _) _
              have RK := RdK.lit wm 5 #[.string (bstr p.ho), .int .i64 p.key, .int .i64 p.rights, .int .i64 p.fr, .int .i64 p.to] 139 1 rfl (by unfold maxLen; omega)
              have HOA := Lib.hid ((kow.out.ext Lm).ext eA)
              have HXA := Lib.hid (xr.tr (Lm.tr eA))
              clear LL g1 g2 g3 l0 l1 l2 l3 l4 o0 o1 ol
              show wpList _ _ _ _ _ _
              go_wp2_with (refine wpList_appKR (k := 5) (by decide) elemTp (n := n3) (m := 1) HOA.out HNX.out RK rfl (tpCells_one p) HXA.out (by have := HN3.out; omega) (by have := HN3.out; unfold maxLen; omega) HXA.out.size rfl rfl rfl rfl ?_; intro A9 n9 c9 w9 hn9 o9 b9 g9 h9)
              have RL := Lib.hid (show OwnK w9 wl.heap.size 139 5 (.slice A9 n9 c9) (tpsCells (keptK pts dd (k + 1))) by rw [HKS.out, ← tpsCells_snoc]; exact o9)
              have RN := Lib.hid (show n9 = (keptK pts dd (k + 1)).length by rw [hn9.out, HKS.out, List.length_append, kn.out]; rfl)
              have RE : Ext wl w9 := b9
              clear o9 g9 h9 b9 hn9 HOA HXA HKS RK eA m0 m1 m2 m3 m4 v0 v1 vl
              go_roundw
              case rel =>
                repeat (first | exact ⟨⟨k + 1, by omega, by go_num, RE, _, _, _, rfl, RN.out, RL.out⟩, rfl⟩ | refine ⟨_, ?_⟩)
                exact ⟨k + 1, by omega, by go_num, RE, _, _, _, rfl, RN.out, RL.out⟩
              case measure => simp [intOf]; omega
            · have hb : ((k : Int) == (pts.length : Int) - 1) = false := by simp; omega
              by_cases hB : dd ≤ p.to
              · have HKS := Lib.hid ((keptK_step (l := pts) (d := dd) HP.out).trans (if_pos (.inr hB)))
                clear hA
                repeat (first | (refine Gd.wpX_skip (by exact ⟨_, rfl, rfl, rfl⟩) rfl rfl ?_; simp only [Act.put, List.setIfInBounds_toArray, List.set_cons_zero, List.set_cons_succ]) | (refine Gd.wpX_pure (by first | exact trivial | exact ⟨_, rfl, rfl, rfl⟩) rfl rfl rfl rfl rfl (fun K hK => ?_); go_big_quiet_op; refine hK _ ?_; clear hK K))
                refine Gd.wpX_end0 (fun m => ?_)
                have Lm := LL m
                obtain ⟨wm, hwm⟩ := m
                have Lm : Ext wr wm := Lm
                have m0 := (Lm.cell (p := ⟨b8, o8 + k * 5, none⟩) hbr).trans l0
                have m1 := (Lm.cell (p := ⟨b8, o8 + k * 5 + 1, none⟩) hbr).trans l1
                have m2 := (Lm.cell (p := ⟨b8, o8 + k * 5 + 2, none⟩) hbr).trans l2
                have m3 := (Lm.cell (p := ⟨b8, o8 + k * 5 + 3, none⟩) hbr).trans l3
                have m4 := (Lm.cell (p := ⟨b8, o8 + k * 5 + 4, none⟩) hbr).trans l4
                obtain ⟨v0, v1⟩ := (SR.o.ext Lm).cells
                have vl := (SR.o.ext Lm).lt
                have eA : Ext wm (wm.alloc (.cells #[.string (bstr p.ho), .int .i64 p.key, .int .i64 p.rights, .int .i64 p.fr, .int .i64 p.to] 139)) := (Below.refl _ _).alloc (Nat.le_refl _) _
                have RK := RdK.lit wm 5 #[.string (bstr p.ho), .int .i64 p.key, .int .i64 p.rights, .int .i64 p.fr, .int .i64 p.to] 139 1 rfl (by unfold maxLen; omega)
                have HOA := Lib.hid ((kow.out.ext Lm).ext eA)
                have HXA := Lib.hid (xr.tr (Lm.tr eA))
                clear LL g1 g2 g3 l0 l1 l2 l3 l4 o0 o1 ol
                show wpList _ _ _ _ _ _
                go_wp2_with (refine wpList_appKR (k := 5) (by decide) elemTp (n := n3) (m := 1) HOA.out HNX.out RK rfl (tpCells_one p) HXA.out (by have := HN3.out; omega) (by have := HN3.out; unfold maxLen; omega) HXA.out.size rfl rfl rfl rfl ?_; intro A9 n9 c9 w9 hn9 o9 b9 g9 h9)
                have RL := Lib.hid (show OwnK w9 wl.heap.size 139 5 (.slice A9 n9 c9) (tpsCells (keptK pts dd (k + 1))) by rw [HKS.out, ← tpsCells_snoc]; exact o9)
                have RN := Lib.hid (show n9 = (keptK pts dd (k + 1)).length by rw [hn9.out, HKS.out, List.length_append, kn.out]; rfl)
                have RE : Ext wl w9 := b9
                clear o9 g9 h9 b9 hn9 HOA HXA HKS RK eA m0 m1 m2 m3 m4 v0 v1 vl
                go_roundw
                case rel =>
                  repeat (first | exact ⟨⟨k + 1, by omega, by go_num, RE, _, _, _, rfl, RN.out, RL.out⟩, rfl⟩ | refine ⟨_, ?_⟩)
                  exact ⟨k + 1, by omega, by go_num, RE, _, _, _, rfl, RN.out, RL.out⟩
                case measure => simp [intOf]; omega
              · have HKS := Lib.hid ((keptK_step (l := pts) (d := dd) HP.out).trans (if_neg (fun q => q.elim hA hB)))
                clear hA
                repeat (first | (refine Gd.wpX_skip (by exact ⟨_, rfl, rfl, rfl⟩) rfl rfl ?_; simp only [Act.put, List.setIfInBounds_toArray, List.set_cons_zero, List.set_cons_succ]) | (refine Gd.wpX_pure (by first | exact trivial | exact ⟨_, rfl, rfl, rfl⟩) rfl rfl rfl rfl rfl (fun K hK => ?_); go_big_quiet_op; refine hK _ ?_; clear hK K))
                refine Gd.wpX_end0 (fun m => ?_)
                have Lm := LL m
                obtain ⟨wm, hwm⟩ := m
                have Lm : Ext wr wm := Lm
                have RL := Lib.hid (show OwnK wm wl.heap.size 139 5 (.slice A3 n3 c3) (tpsCells (keptK pts dd (k + 1))) by rw [HKS.out]; exact kow.out.ext Lm)
                have RN := Lib.hid (show n3 = (keptK pts dd (k + 1)).length by rw [HKS.out, kn.out])
                have RE : Ext wl wm := xr.tr Lm
                clear LL g1 g2 g3 HKS l0 l1 l2 l3 l4
                show wpList _ _ _ _ _ _
                go_wp2_with fail
                go_roundw
                case rel =>
                  repeat (first | exact ⟨⟨k + 1, by omega, by go_num, RE, _, _, _, rfl, RN.out, RL.out⟩, rfl⟩ | refine ⟨_, ?_⟩)
                  exact ⟨k + 1, by omega, by go_num, RE, _, _, _, rfl, RN.out, RL.out⟩
                case measure => simp [intOf]; omega
          · obtain rfl : k = pts.length := by omega
            have HK := Lib.hid (show keptK pts dd pts.length = lnKept ⟨l, dt⟩ b x by rw [HP7.out]; exact HKA.out)
            rw [HK.out] at kow kn HNX
            generalize lnKept ⟨l, dt⟩ b x = K at *
            have hbs : w.heap.size + 4 ≤ wl.heap.size := by have := S7.o.lt; have := S7.cb; omega
            have KO := Lib.hid (kow.out.mono hbs)
            have S8 := Lib.hid (LnS.mk2 SR.z SR.o KO.out SR.cb kn)
            have of0 := SR.o.frozen 0
            clear hk hlt S7 HEL hcm hpl HK HKA HP7 hnc hbs
            by_cases h2 : 2 < n3
            · have h2' : (2 : Int) < (n3 : Int) := by omega
              have hfin : learnT ⟨l, dt⟩ b x = ⟨K.drop 1, dd⟩ := HE.out.trans (by rw [if_pos (by rw [← kn.out]; exact h2), ← HDD.out])
              have HF := Lib.hid hfin
              obtain ⟨g8, hA3, hnc8, hcm8⟩ : ∃ g, A3 = some ⟨g, 0, none⟩ ∧ n3 ≤ c3 ∧ c3 ≤ maxLen := by
                obtain ⟨A', n', c', e, hn, ⟨q1, q2⟩ | ⟨g, cur, q1, q2, q3, q4, q5, _⟩⟩ := KO.out
                · injection e with e1 e2 e3; omega
                · injection e with e1 e2 e3
                  subst e1 e2 e3
                  exact ⟨g, q1, q4, q5⟩
              subst hA3
              unfold maxLen at hcm8
              have FI := Lib.hid (SR.finDrop KO.out (by omega) HF.out)
              have FC := Lib.hid (SR.finDropCells (some ⟨g8, 5, none⟩) (n3 - 1) (c3 - 1))
              have hc1 : ¬ c3 = 1 := by omega
              have hlcr : w.heap.size + 3 ≠ cb := by have := SR.cb; omega
              obtain ⟨r0, r1⟩ := SR.z.r.cells
              have rf0 := SR.z.r.frozen 0
              have rf1 := SR.z.r.frozen 1
              have rl := SR.z.r.lt
              clear hfin S8
              go_wp2_with fail
              refine bodyPost_ret (v := .agg #[.slice (some ⟨g8, 5, none⟩) (n3 - 1) (c3 - 1), .int .i64 dd]) ?_ rfl FI.out
              obtain ⟨q0, q1⟩ := FC.out
              simp [results, Tryz.results109, go_sem, q0, q1]
            · have h2' : ¬ (2 : Int) < (n3 : Int) := by omega
              have hfin : learnT ⟨l, dt⟩ b x = ⟨K, dd⟩ := HE.out.trans (by rw [if_neg (by rw [← kn.out]; exact h2), ← HDD.out])
              have HF := Lib.hid hfin
              clear hfin
              obtain ⟨wk, hwk⟩ : ∃ wk, wk = wr.setCell ⟨cb, 0, none⟩ (.slice A3 n3 c3) := ⟨_, rfl⟩
              have S9 : LnS w wk A n c dt b x cb A3 n3 c3 dd K := by rw [hwk]; exact S8.out
              go_upto_region 23 with fail
              rw [← hwk]
              clear hwk o0 o1 of0 ol SR S8
              have FI := Lib.hid (S9.fin HF.out)
              have FC := Lib.hid S9.finCells
              obtain ⟨o0, o1⟩ := S9.o.cells
              have of0 := S9.o.frozen 0
              obtain ⟨r0, r1⟩ := S9.z.r.cells
              have rf0 := S9.z.r.frozen 0
              have rf1 := S9.z.r.frozen 1
              have ol := S9.o.lt
              have rl := S9.z.r.lt
              go_wp2_with fail
              refine bodyPost_ret (v := .agg #[.slice A3 n3 c3, .int .i64 dd]) ?_ rfl FI.out
              obtain ⟨q0, q1⟩ := FC.out
              simp [results, Tryz.results109, go_sem, q0, q1]
end Go.Proofs.YtkjplpmogfmhkaaGreatDoor
