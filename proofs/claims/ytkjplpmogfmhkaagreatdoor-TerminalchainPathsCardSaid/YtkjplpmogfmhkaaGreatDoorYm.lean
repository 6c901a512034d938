/- Layer 25: Learn, the walk. -/
import Derived.Test.YtkjplpmogfmhkaaGreatDoorPkw
import Derived.Deep.CutRange
import Derived.Deep.CutBlock
namespace Go.Proofs.YtkjplpmogfmhkaaGreatDoor
open Go.RowKit
set_option linter.unusedVariables false
set_option maxRecDepth 100000

set_option maxHeartbeats 8000000 in
theorem learn25_any {v : Value} (t : TR) (b : CH) (x : TC) (w : World) (hv : TrR w v t) (hs : smR t.ps) (hx : smT x) (hl : t.ps.length ≤ 1000000000000) : Calls Tryz.prog 107 #[v, chV b, tcV x] w (LearnR w (learnT t b x)) := by
  have HV := Lib.hid (fun W (e : Ext w W) => valid25_any t W (hv.ext e) hs)
  obtain ⟨A, n, c, rfl, hr⟩ := hv
  obtain ⟨l, dt⟩ := t
  have HRT := Lib.hid hr
  obtain ⟨wz, hwz, zz⟩ := ln_alloc w A n c dt b x
  have HX := Lib.hid hx
  have HL := Lib.hid hl
  clear hr hs hx hl
  unfold chV tcV
  go_enter Tryz.func107, Tryz.ntmps107
  go_wp2_with fail
  rw [← hwz]
  clear hwz
  refine Gd.wp_region_X 7 (by kernel_rfl) (by kernel_rfl) ?_
  simp only [List.take_succ_cons, List.take_zero, List.drop_succ_cons, List.drop_zero]
  intro wq hw1
  have LL : ∀ m : Lt wq, Ext wz m.1 := fun m => hw1.tr m.2
  have g1 : ∀ m : Lt wq, m.1.cell? ⟨w.heap.size, 0, none⟩ = some (.slice A n c) := fun m => ((zz.t.ext (LL m)).cells).1
  have g2 : ∀ m : Lt wq, m.1.cell? ⟨w.heap.size, 1, none⟩ = some (.int .i64 dt) := fun m => ((zz.t.ext (LL m)).cells).2
  repeat (refine Gd.wpX_pure (by first | exact trivial | exact ⟨_, rfl, rfl, rfl⟩) rfl rfl rfl rfl rfl (fun K hK => ?_); go_big_quiet_op; refine hK _ ?_; clear hK K)
  refine Gd.wpX_callF (by first | exact trivial | exact ⟨_, rfl, rfl, rfl⟩) (GT wz.heap.size l) (stable_GT _ _) (fun _ => [.slice A n c]) rfl rfl rfl rfl rfl (by kernel_rfl) rfl (fun _ => rfl) (fun m f hf => (cloneT_any m.1 (HRT.out.ext (zz.ext.tr (LL m))) (by have := HL.out; show l.length ≤ _; have h2 : l.length ≤ 1000000000000 := HL.out; omega)).mono fun _ _ h => h.gt (LL m).size) ?_
  simp only [Act.put, List.setIfInBounds_toArray, List.set_cons_zero, List.set_cons_succ]
  repeat (refine Gd.wpX_pure (by first | exact trivial | exact ⟨_, rfl, rfl, rfl⟩) rfl rfl rfl rfl rfl (fun K hK => ?_); go_big_quiet_op; refine hK _ ?_; clear hK K)
  refine Gd.wpX_buildL (by first | exact trivial | exact ⟨_, rfl, rfl, rfl⟩) (GTr wz.heap.size l dt) (stable_GTr _ _ _) (fun f => [(0, f 13), (1, .int .i64 dt)]) rfl rfl rfl rfl rfl (fun f => rfl) (fun m f hf => by obtain ⟨A1, n1, c1, h1, h2, h3⟩ := hf 13 _ rfl rfl; rw [h1]; exact ⟨_, _, run_buildTr m.1 A1 n1 c1 dt, Below.refl _ _, A1, n1, c1, rfl, h2, h3⟩) ?_
  simp only [Act.put, List.setIfInBounds_toArray, List.set_cons_zero, List.set_cons_succ]
  refine Gd.wpX_allocTr (by first | exact trivial | exact ⟨_, rfl, rfl, rfl⟩) rfl rfl rfl rfl ?_
  simp only [Act.put, List.setIfInBounds_toArray, List.set_cons_zero, List.set_cons_succ]
  refine Gd.wpX_endL (fun m f hf => ?_)
  obtain ⟨A1, n1, c1, e16, hn1, ow1⟩ := hf 16 _ rfl
  obtain ⟨cb, e7, hcb, TO⟩ := hf 7 _ rfl
  simp only [fillH]
  simp only [Act.put, List.setIfInBounds_toArray, List.set_cons_zero, List.set_cons_succ]
  rw [e16, e7]
  have Lm := LL m
  have hw15 := hw1.size
  obtain ⟨wm, hwm⟩ := m
  have Lm : Ext wz wm := Lm
  have TO : TrAt wm cb none 0 0 0 := TO
  have ow1 : OwnK wm wz.heap.size 139 5 (.slice A1 n1 c1) (tpsCells l) := ow1
  generalize f 13 = f13 at *
  generalize f 16 = f16 at *
  have hcb2 : wz.heap.size ≤ cb := Nat.le_trans hw15 hcb
  have hzl := zz.r.lt
  have hcb3 : w.heap.size + 3 < cb := by omega
  have ZM := zz.tr Lm
  clear LL g1 g2 hf e16 e7 hw15 hcb
  obtain ⟨wn, hwn, S0⟩ : ∃ wn, wn = (wm.setCell ⟨cb, 0, none⟩ (.slice A1 n1 c1)).setCell ⟨cb, 1, none⟩ (.int .i64 dt) ∧ LnS w wn A n c dt b x cb A1 n1 c1 dt l := by
    refine ⟨_, rfl, (ZM.gb (Gb.set cb 0 wm _) hcb3).gb (Gb.set cb 1 _ _) hcb3, TO.setPs.setDt dt, ((ow1.poke TO tp_ne_tr 0 _).poke TO.setPs tp_ne_tr 1 _).mono ?_, hcb3, hn1⟩
    omega
  obtain ⟨o0, o1⟩ := TO.cells
  have of0 := TO.frozen 0
  have of1 := TO.frozen 1
  have ol := TO.lt
  show wpList _ _ _ _ _ _
  go_upto_region 2 with fail
  rw [← hwn]
  clear hwn o0 o1 of0 of1 ol TO ow1 hn1 ZM Lm hcb2 hzl zz
  obtain ⟨z0, z1⟩ := S0.z.t.cells
  have zl := S0.z.t.lt
  go_wp2_with fail
  refine (HV.out _ S0.z.ext).mono ?_
  rintro e w2 ⟨rfl, b2⟩
  have S2 := S0.tr b2
  clear z0 z1 zl S0
  by_cases hv : vdK ⟨l, dt⟩ = 0
  case neg =>
    have hb : (vdK ⟨l, dt⟩ != 0) = true := by simpa using hv
    have HE := Lib.hid (learn_bad1 (b := b) (x := x) hv)
    clear hv
    have FI := Lib.hid (S2.fin HE.out)
    have FC := Lib.hid S2.finCells
    obtain ⟨o0, o1⟩ := S2.o.cells
    have of0 := S2.o.frozen 0
    obtain ⟨r0, r1⟩ := S2.z.r.cells
    have rf0 := S2.z.r.frozen 0
    have rf1 := S2.z.r.frozen 1
    have ol := S2.o.lt
    have rl := S2.z.r.lt
    go_wp2_with fail
    refine bodyPost_ret (v := .agg #[.slice A1 n1 c1, .int .i64 (dt)]) ?_ rfl FI.out
    obtain ⟨q0, q1⟩ := FC.out
    simp [results, Tryz.results107, go_sem, q0, q1]
  case pos =>
  have HV0 := Lib.hid hv
  rw [hv]
  clear hv
  obtain ⟨x0, x1, x2, x3, x4, x5, x6, x7, x8⟩ := S2.z.x.cells
  have xl := S2.z.x.lt
  go_wp2_with fail
  refine (checkP_any x _ HX.out).mono ?_
  rintro e w3 ⟨rfl, b3⟩
  have S3 := S2.tr b3
  clear x0 x1 x2 x3 x4 x5 x6 x7 x8 xl S2
  by_cases hc : ckT x = 0
  case neg =>
    have hb : (ckT x != 0) = true := by simpa using hc
    have HE := Lib.hid (learn_bad2 (t := ⟨l, dt⟩) (b := b) hc)
    clear hc
    have FI := Lib.hid (S3.fin HE.out)
    have FC := Lib.hid S3.finCells
    obtain ⟨o0, o1⟩ := S3.o.cells
    have of0 := S3.o.frozen 0
    obtain ⟨r0, r1⟩ := S3.z.r.cells
    have rf0 := S3.z.r.frozen 0
    have rf1 := S3.z.r.frozen 1
    have ol := S3.o.lt
    have rl := S3.z.r.lt
    go_wp2_with fail
    refine bodyPost_ret (v := .agg #[.slice A1 n1 c1, .int .i64 (dt)]) ?_ rfl FI.out
    obtain ⟨q0, q1⟩ := FC.out
    simp [results, Tryz.results107, go_sem, q0, q1]
  case pos =>
  have HC0 := Lib.hid hc
  rw [hc]
  clear hc
  obtain ⟨x0, x1, x2, x3, x4, x5, x6, x7, x8⟩ := S3.z.x.cells
  have xl := S3.z.x.lt
  obtain ⟨y0, y1, y2, y3, y4, y5⟩ := S3.z.b.cells
  have yl := S3.z.b.lt
  go_wp2_with fail
  refine (dates_any b x _).mono ?_
  rintro e w4 ⟨rfl, b4⟩
  have S4 := S3.tr b4
  clear x0 x1 x2 x3 x4 x5 x6 x7 x8 xl y0 y1 y2 y3 y4 y5 yl S3
  go_upto_if 28 with fail
  go_cut [] from 11 to 100 (fun wx => LnS w wx A n c dt b x cb A1 n1 c1 (lnDt ⟨l, dt⟩ b x) l)
  case first =>
    cases hd : dtB b x with
    | true =>
      have hdt : lnDt ⟨l, dt⟩ b x = max dt x.fr := if_pos (of_decide_eq_true hd)
      have HDT := Lib.hid hdt
      clear hdt
      obtain ⟨o0, o1⟩ := S4.o.cells
      have of1 := S4.o.frozen 1
      obtain ⟨_, _, _, _, _, x5, _, _, _⟩ := S4.z.x.cells
      have ol := S4.o.lt
      have xl := S4.z.x.lt
      have SD := Lib.hid (S4.setDt (max dt x.fr))
      go_wp2_with fail
      go_meet
      rw [HDT.out]
      exact SD.out
    | false =>
      have hdt : lnDt ⟨l, dt⟩ b x = dt := if_neg (of_decide_eq_false hd)
      have HDT := Lib.hid hdt
      clear hdt
      go_wp2_with fail
      go_meet
      rw [HDT.out]
      exact S4
  case rest =>
    have S5 := hcut
    clear hcut S4 HV
    obtain ⟨dd, hdd⟩ : ∃ dd, dd = lnDt ⟨l, dt⟩ b x := ⟨_, rfl⟩
    rw [← hdd] at S5
    have HDD := Lib.hid hdd
    clear hdd
    obtain ⟨x0, x1, x2, x3, x4, x5, x6, x7, x8⟩ := S5.z.x.cells
    have xl := S5.z.x.lt
    by_cases hr : x.role = 1
    case neg =>
      have hb : (x.role != 1) = true := by simpa using hr
      have HE := Lib.hid ((learn_date (t := ⟨l, dt⟩) (b := b) HV0.out HC0.out (.inl hr)).trans (by rw [← HDD.out]))
      clear hr
      have FI := Lib.hid (S5.fin HE.out)
      have FC := Lib.hid S5.finCells
      obtain ⟨o0, o1⟩ := S5.o.cells
      have of0 := S5.o.frozen 0
      obtain ⟨r0, r1⟩ := S5.z.r.cells
      have rf0 := S5.z.r.frozen 0
      have rf1 := S5.z.r.frozen 1
      have ol := S5.o.lt
      have rl := S5.z.r.lt
      go_wp2_with fail
      refine bodyPost_ret (v := .agg #[.slice A1 n1 c1, .int .i64 dd]) ?_ rfl FI.out
      obtain ⟨q0, q1⟩ := FC.out
      simp [results, Tryz.results107, go_sem, q0, q1]
    case pos =>
    have hb : (x.role != 1) = false := by simp [hr]
    have HR1 := Lib.hid hr
    clear hr
    obtain ⟨o0, o1⟩ := S5.o.cells
    have ol := S5.o.lt
    go_wp2_with fail
    refine (has_any x.ho _ S5.own.rd).mono ?_
    rintro e w5 ⟨rfl, b5⟩
    have S6 := S5.tr b5
    clear x0 x1 x2 x3 x4 x5 x6 x7 x8 xl o0 o1 ol S5
    cases hh : hasP l x.ho with
    | true =>
      have HE := Lib.hid ((learn_date (t := ⟨l, dt⟩) (b := b) HV0.out HC0.out (.inr hh)).trans (by rw [← HDD.out]))
      clear hh
      have FI := Lib.hid (S6.fin HE.out)
      have FC := Lib.hid S6.finCells
      obtain ⟨o0, o1⟩ := S6.o.cells
      have of0 := S6.o.frozen 0
      obtain ⟨r0, r1⟩ := S6.z.r.cells
      have rf0 := S6.z.r.frozen 0
      have rf1 := S6.z.r.frozen 1
      have ol := S6.o.lt
      have rl := S6.z.r.lt
      go_wp2_with fail
      refine bodyPost_ret (v := .agg #[.slice A1 n1 c1, .int .i64 dd]) ?_ rfl FI.out
      obtain ⟨q0, q1⟩ := FC.out
      simp [results, Tryz.results107, go_sem, q0, q1]
    | false =>
      have HE := Lib.hid (learn_kept (t := ⟨l, dt⟩) (b := b) (x := x) HV0.out HC0.out (by rintro (q | q); exact q HR1.out; rw [show (⟨l, dt⟩ : TR).ps = l from rfl, hh] at q; cases q))
      clear hh
      obtain ⟨x0, x1, x2, x3, x4, x5, x6, x7, x8⟩ := S6.z.x.cells
      have xl := S6.z.x.lt
      obtain ⟨y0, y1, y2, y3, y4, y5⟩ := S6.z.b.cells
      have yl := S6.z.b.lt
      obtain ⟨o0, o1⟩ := S6.o.cells
      have ol := S6.o.lt
      have of0 := S6.o.frozen 0
      obtain ⟨wa, hwa, xa, ta⟩ := tp_alloc w5 (lnPt b x)
      have hwb := hwa.symm
      have RK : RdT wa (.slice (some ⟨w5.heap.size, 0, none⟩) 1 1) [lnPt b x] := by
        rw [hwa]
        exact RdK.lit w5 5 #[.string (bstr (lnPt b x).ho), .int .i64 (lnPt b x).key, .int .i64 (lnPt b x).rights, .int .i64 (lnPt b x).fr, .int .i64 (lnPt b x).to] 139 1 rfl (by unfold maxLen; omega)
      have SA := Lib.hid (S6.tr xa)
      have HOA := Lib.hid (S6.tr xa).own
      have HNX := Lib.hid (show n1 * 5 = (tpsCells l).length by rw [tpsCells_len, S6.len.out])
      have HN1 := Lib.hid (show n1 ≤ 1000000000000 by rw [S6.len.out]; exact HL.out)
      have HBS := Lib.hid (show w.heap.size + 4 ≤ wa.heap.size by have := (S6.tr xa).o.lt; have := S6.cb; omega)
      obtain ⟨a0, a1⟩ := (S6.tr xa).o.cells
      have af0 := (S6.tr xa).o.frozen 0
      have al := (S6.tr xa).o.lt
      have hwb' : w5.alloc (.cells #[.string (bstr x.ho), .int .i64 x.key, .int .i64 (andR x.rights b.rights), .int .i64 x.fr, .int .i64 x.to] 139) = wa := hwb
      unfold andR at hwb'
      clear hwa hwb xa ta
      go_wp2_with (refine wpList_appKR (k := 5) (by decide) elemTp (n := n1) (m := 1) HOA.out HNX.out RK rfl (tpsCells_one _) (Below.refl _ _) (by have := HN1.out; omega) (by have := HN1.out; unfold maxLen; omega) HBS.out rfl rfl rfl rfl ?_; intro A8 n8 c8 w6 hn8 o8 _ g8 h8; obtain ⟨Z7, T7⟩ := SA.out.gro g8; obtain ⟨k0, k1⟩ := T7.cells; have kf0 := T7.frozen 0; have kl := T7.lt)
      have hcb4 := SA.out.cb
      obtain ⟨wl, hwl, S7⟩ : ∃ wl, wl = w6.setCell ⟨cb, 0, none⟩ (.slice A8 n8 c8) ∧ LnS w wl A n c dt b x cb A8 n8 c8 dd (l ++ [lnPt b x]) := by
        refine ⟨_, rfl, LnS.mk2 Z7 T7 ?_ hcb4 ?_⟩
        · rw [← tpsCells_app]; exact o8
        · rw [hn8.out, List.length_append, SA.out.len.out]; rfl
      rw [← hwl]
      have HP7 := Lib.hid (show (l ++ [lnPt b x]).length = l.length + 1 by simp)
      have HKA := Lib.hid (show keptK (l ++ [lnPt b x]) dd (l.length + 1) = lnKept ⟨l, dt⟩ b x by rw [keptK_all]; unfold lnKept; rw [HDD.out])
      clear hwl hwb' RK SA HOA HNX HN1 HBS a0 a1 af0 al x0 x1 x2 x3 x4 x5 x6 x7 x8 xl y0 y1 y2 y3 y4 y5 yl o0 o1 ol of0 k0 k1 kf0 kl Z7 T7 o8 g8 h8 hn8 S6 HRT
      generalize l ++ [lnPt b x] = pts at *
      obtain rfl : n8 = pts.length := S7.len.out
      obtain ⟨A', n', c', e, hnl, hnc, hcm, hel⟩ := RdT.at_ S7.own.rd
      injection e with e1 e2 e3
      subst e1 e2 e3
      unfold maxLen at hcm
      have HEL := Lib.hid hel
      have HPL := Lib.hid (show pts.length ≤ 1000000000001 by rw [HP7.out]; have h2 : l.length ≤ 1000000000000 := HL.out; omega)
      have hpl : pts.length ≤ 9223372036854775807 := by omega
      clear hel hnl
      go_loopw [8, 68] (fun kv i wr => ∃ k : Nat, k ≤ pts.length ∧ i = .int .i64 (k : Int) ∧ Ext wl wr ∧ ∃ A3 n3 c3, kv = .slice A3 n3 c3 ∧ Hid (n3 = (keptK pts dd k).length) ∧ OwnK wr wl.heap.size 139 5 (.slice A3 n3 c3) (tpsCells (keptK pts dd k))) (fun _ i _ => pts.length - (intOf i).toNat)
      case atStart => exact ⟨0, Nat.zero_le _, rfl, Below.refl _ _, none, 0, 0, rfl, rfl, OwnK.empty _ _ _ _ _⟩
      case round =>
        obtain ⟨k, hk, rfl, xr, A3, n3, c3, rfl, kn, kow0⟩ := hrel
        have kow := Lib.hid kow0
        clear kow0
        have SR := S7.tr xr
        have HNX := Lib.hid (show n3 * 5 = (tpsCells (keptK pts dd k)).length by rw [tpsCells_len, kn.out])
        have HN3 := Lib.hid (show n3 ≤ 1000000000001 by have h1 := keptK_len pts dd k; have h2 := HPL.out; have h3 := kn.out; omega)
        by_cases hlt : k < pts.length
        · obtain ⟨p, hp⟩ : ∃ p, pts[k]? = some p := ⟨_, List.getElem?_eq_getElem hlt⟩
          obtain ⟨b8, o8, rfl, hbl, hc⟩ := HEL.out (by omega)
          obtain ⟨e0, e1, e2, e3, e4⟩ := hc k p hp
          have l0 := (xr.cell (p := ⟨b8, o8 + k * 5, none⟩) hbl).trans e0
          have l1 := (xr.cell (p := ⟨b8, o8 + k * 5 + 1, none⟩) hbl).trans e1
          have l2 := (xr.cell (p := ⟨b8, o8 + k * 5 + 2, none⟩) hbl).trans e2
          have l3 := (xr.cell (p := ⟨b8, o8 + k * 5 + 3, none⟩) hbl).trans e3
          have l4 := (xr.cell (p := ⟨b8, o8 + k * 5 + 4, none⟩) hbl).trans e4
          have HP := Lib.hid hp
          obtain ⟨wa, hwa, xa, ta⟩ := tp_alloc wr p
          have hwb := hwa.symm
          obtain ⟨t0, t1, t2, t3, t4⟩ := ta.cells
          have htl := ta.lt
          obtain ⟨o0, o1⟩ := (SR.tr xa).o.cells
          have ol := (SR.tr xa).o.lt
          clear e0 e1 e2 e3 e4 hp hc hwa
          have wi1 : IntKind.i64.wrap ((k : Int)) = (k : Int) := IntWalk.i64_in _ (by omega)
          have zi1 : (0 : Int) ≤ (k : Int) := by omega
          have li1 : (k : Int) < (pts.length : Int) := by omega
          have ti1 : ((k : Int)).toNat = k := by omega
          by_cases hA : k + 1 = pts.length
          · have hb : ((k : Int) == (pts.length : Int) - 1) = true := by simp; omega
            have HA := Lib.hid hA
            clear hA
            have eA : Ext wa (wa.alloc (.cells #[.string (bstr p.ho), .int .i64 p.key, .int .i64 p.rights, .int .i64 p.fr, .int .i64 p.to] 139)) := (Below.refl _ _).alloc (Nat.le_refl _) _
            have RK := RdK.lit wa 5 #[.string (bstr p.ho), .int .i64 p.key, .int .i64 p.rights, .int .i64 p.fr, .int .i64 p.to] 139 1 rfl (by unfold maxLen; omega)
            have HOA := Lib.hid ((kow.out.ext xa).ext eA)
            have HXA := Lib.hid (xr.tr (xa.tr eA))
            have HKS := Lib.hid ((keptK_step (l := pts) (d := dd) HP.out).trans (if_pos (.inl HA.out)))
            go_wp2_with (refine wpList_appKR (k := 5) (by decide) elemTp (n := n3) (m := 1) HOA.out HNX.out RK rfl (tpCells_one p) HXA.out (by have := HN3.out; omega) (by have := HN3.out; unfold maxLen; omega) HXA.out.size rfl rfl rfl rfl ?_; intro A9 n9 c9 w9 hn9 o9 b9 g9 h9)
            have RL := Lib.hid (show OwnK w9 wl.heap.size 139 5 (.slice A9 n9 c9) (tpsCells (keptK pts dd (k + 1))) by rw [HKS.out, ← tpsCells_snoc]; exact o9)
            have RN := Lib.hid (show n9 = (keptK pts dd (k + 1)).length by rw [hn9.out, HKS.out, List.length_append, kn.out]; rfl)
            have RE : Ext wl w9 := b9
            clear o9 g9 h9 b9 hn9 HOA HXA HKS RK eA l0 l1 l2 l3 l4 t0 t1 t2 t3 t4
            go_roundw
            case rel =>
              repeat (first | exact ⟨⟨k + 1, by omega, by go_num, RE, _, _, _, rfl, RN.out, RL.out⟩, rfl⟩ | refine ⟨_, ?_⟩)
              exact ⟨k + 1, by omega, by go_num, RE, _, _, _, rfl, RN.out, RL.out⟩
            case measure => simp [intOf]; omega
          · have hb : ((k : Int) == (pts.length : Int) - 1) = false := by simp; omega
            have HA := Lib.hid hA
            clear hA
            by_cases hB : dd ≤ p.to
            · have HBB := Lib.hid hB
              have eA : Ext wa (wa.alloc (.cells #[.string (bstr p.ho), .int .i64 p.key, .int .i64 p.rights, .int .i64 p.fr, .int .i64 p.to] 139)) := (Below.refl _ _).alloc (Nat.le_refl _) _
              have RK := RdK.lit wa 5 #[.string (bstr p.ho), .int .i64 p.key, .int .i64 p.rights, .int .i64 p.fr, .int .i64 p.to] 139 1 rfl (by unfold maxLen; omega)
              have HOA := Lib.hid ((kow.out.ext xa).ext eA)
              have HXA := Lib.hid (xr.tr (xa.tr eA))
              have HKS := Lib.hid ((keptK_step (l := pts) (d := dd) HP.out).trans (if_pos (.inr HBB.out)))
              go_wp2_with (refine wpList_appKR (k := 5) (by decide) elemTp (n := n3) (m := 1) HOA.out HNX.out RK rfl (tpCells_one p) HXA.out (by have := HN3.out; omega) (by have := HN3.out; unfold maxLen; omega) HXA.out.size rfl rfl rfl rfl ?_; intro A9 n9 c9 w9 hn9 o9 b9 g9 h9)
              have RL := Lib.hid (show OwnK w9 wl.heap.size 139 5 (.slice A9 n9 c9) (tpsCells (keptK pts dd (k + 1))) by rw [HKS.out, ← tpsCells_snoc]; exact o9)
              have RN := Lib.hid (show n9 = (keptK pts dd (k + 1)).length by rw [hn9.out, HKS.out, List.length_append, kn.out]; rfl)
              have RE : Ext wl w9 := b9
              clear o9 g9 h9 b9 hn9 HOA HXA HKS RK eA l0 l1 l2 l3 l4 t0 t1 t2 t3 t4
              go_roundw
              case rel =>
                repeat (first | exact ⟨⟨k + 1, by omega, by go_num, RE, _, _, _, rfl, RN.out, RL.out⟩, rfl⟩ | refine ⟨_, ?_⟩)
                exact ⟨k + 1, by omega, by go_num, RE, _, _, _, rfl, RN.out, RL.out⟩
              case measure => simp [intOf]; omega
            · have HKS := Lib.hid ((keptK_step (l := pts) (d := dd) HP.out).trans (if_neg (fun q => q.elim HA.out hB)))
              have RL := Lib.hid (show OwnK wa wl.heap.size 139 5 (.slice A3 n3 c3) (tpsCells (keptK pts dd (k + 1))) by rw [HKS.out]; exact kow.out.ext xa)
              have RN := Lib.hid (show n3 = (keptK pts dd (k + 1)).length by rw [HKS.out, kn.out])
              have RE : Ext wl wa := xr.tr xa
              clear HKS
              go_wp2_with fail
              clear l0 l1 l2 l3 l4 t0 t1 t2 t3 t4
              go_roundw
              case rel =>
                repeat (first | exact ⟨⟨k + 1, by omega, by go_num, RE, _, _, _, rfl, RN.out, RL.out⟩, rfl⟩ | refine ⟨_, ?_⟩)
                exact ⟨k + 1, by omega, by go_num, RE, _, _, _, rfl, RN.out, RL.out⟩
              case measure => simp [intOf]; omega
        · obtain rfl : k = pts.length := by omega
          have HK := Lib.hid (show keptK pts dd pts.length = lnKept ⟨l, dt⟩ b x by rw [HP7.out]; exact HKA.out)
          rw [HK.out] at kow kn HNX
          generalize lnKept ⟨l, dt⟩ b x = K at *
          have S8 := LnS.mk2 SR.z SR.o (kow.out.mono (show w.heap.size + 4 ≤ wl.heap.size by have := S7.o.lt; have := S7.cb; omega)) SR.cb kn
          obtain ⟨wk, hwk⟩ : ∃ wk, wk = wr.setCell ⟨cb, 0, none⟩ (.slice A3 n3 c3) := ⟨_, rfl⟩
          rw [← hwk] at S8
          obtain ⟨o0, o1⟩ := SR.o.cells
          have of0 := SR.o.frozen 0
          have ol := SR.o.lt
          clear hk hlt S7 HEL hcm hpl HK HKA HP7 hnc
          by_cases h2 : 2 < n3
          · have h2' : (2 : Int) < (n3 : Int) := by omega
            have hfin : learnT ⟨l, dt⟩ b x = ⟨K.drop 1, dd⟩ := HE.out.trans (by rw [if_pos (by rw [← kn.out]; exact h2), ← HDD.out])
            have HF := Lib.hid hfin
            have rd0 := S8.own.rd
            obtain ⟨A', n', c', e, hnl, hnc, hcm, hel⟩ := RdT.at_ rd0
            injection e with e1 e2 e3
            subst e1 e2 e3
            unfold maxLen at hcm
            obtain ⟨b8, o8, rfl, hbl, _⟩ := hel (by omega)
            have RD1 := Lib.hid (RdT.drop1 rd0 (by omega))
            have HN4 := Lib.hid (show (K.drop 1).length ≤ 2000000000000 by rw [List.length_drop, ← kn.out]; have := HN3.out; omega)
            have hc1 : ¬ c3 = 1 := by omega
            clear hel rd0 hfin hnl
            go_upto_region 18 with fail
            rw [← hwk]
            clear hwk o0 o1 of0 ol SR
            go_wp2_with fail
            refine (cloneT_any _ RD1.out HN4.out).mono ?_
            rintro e w9 ⟨b9, A5, n5, c5, rfl, hn5, o5⟩
            have S9 := S8.tr b9
            have S10 := LnS.mk2 S9.z S9.o (o5.mono (show w.heap.size + 4 ≤ wk.heap.size by have := S8.o.lt; have := S8.cb; omega)) S9.cb hn5
            obtain ⟨wm, hwm⟩ : ∃ wm, wm = w9.setCell ⟨cb, 0, none⟩ (.slice A5 n5 c5) := ⟨_, rfl⟩
            rw [← hwm] at S10
            obtain ⟨o0, o1⟩ := S9.o.cells
            have of0 := S9.o.frozen 0
            have ol := S9.o.lt
            go_upto_region 19 with fail
            rw [← hwm]
            clear hwm o0 o1 of0 ol S9
            have FI := Lib.hid (S10.fin HF.out)
            have FC := Lib.hid S10.finCells
            obtain ⟨o0, o1⟩ := S10.o.cells
            have of0 := S10.o.frozen 0
            obtain ⟨r0, r1⟩ := S10.z.r.cells
            have rf0 := S10.z.r.frozen 0
            have rf1 := S10.z.r.frozen 1
            have ol := S10.o.lt
            have rl := S10.z.r.lt
            go_wp2_with fail
            refine bodyPost_ret (v := .agg #[.slice A5 n5 c5, .int .i64 dd]) ?_ rfl FI.out
            obtain ⟨q0, q1⟩ := FC.out
            simp [results, Tryz.results107, go_sem, q0, q1]
          · have h2' : ¬ (2 : Int) < (n3 : Int) := by omega
            have hfin : learnT ⟨l, dt⟩ b x = ⟨K, dd⟩ := HE.out.trans (by rw [if_neg (by rw [← kn.out]; exact h2), ← HDD.out])
            have HF := Lib.hid hfin
            clear hfin
            go_upto_region 19 with fail
            rw [← hwk]
            clear hwk o0 o1 of0 ol SR
            have FI := Lib.hid (S8.fin HF.out)
            have FC := Lib.hid S8.finCells
            obtain ⟨o0, o1⟩ := S8.o.cells
            have of0 := S8.o.frozen 0
            obtain ⟨r0, r1⟩ := S8.z.r.cells
            have rf0 := S8.z.r.frozen 0
            have rf1 := S8.z.r.frozen 1
            have ol := S8.o.lt
            have rl := S8.z.r.lt
            go_wp2_with fail
            refine bodyPost_ret (v := .agg #[.slice A3 n3 c3, .int .i64 dd]) ?_ rfl FI.out
            obtain ⟨q0, q1⟩ := FC.out
            simp [results, Tryz.results107, go_sem, q0, q1]
end Go.Proofs.YtkjplpmogfmhkaaGreatDoor
