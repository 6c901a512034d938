/- Parts Uo Eo of the proof. -/
import Derived.Test.YtmmoenkmicimcaaGreatDoorDRbl
import Derived.Test.YtmmoenkmicimcaaGreatDoorDRbm
import Derived.Test.YtmmoenkmicimcaaGreatDoorDRbk
import Derived.Deep.CutRange
namespace Go.Proofs.YtmmoenkmicimcaaGreatDoor
open Go.RowKit
set_option linter.unusedVariables false
set_option maxRecDepth 100000
theorem rdi2 (W : World) (x y : Int) : RdI (W.alloc (.cells #[.int .i64 x, .int .i64 y] 3)) .i64 (.slice (some ⟨W.heap.size, 0, none⟩) 2 2) [x, y] := Rd.lit W _ _ 2 rfl (by unfold maxLen; omega)
theorem days_awake2 : daysA [0, 1] = [40000] := by decide
theorem state_awake2 : stateN (dv [0, 1] 4) = utoZ := by decide
theorem stB_one {c : NC} (h : smN c) : StB ⟨[c], [], [], [], []⟩ := ⟨fun x hx => by rw [List.mem_singleton.1 hx]; exact h, fun x hx => (by cases hx), fun x hx => (by cases hx), fun x hx => (by cases hx), fun x hx => (by cases hx), by show 1 ≤ 10000; omega, by show 0 ≤ 10000; omega, by show 0 ≤ 20; omega, by show 0 ≤ 10000; omega, by show 0 ≤ 10000; omega⟩
end Go.Proofs.YtmmoenkmicimcaaGreatDoor
namespace Go.Proofs.YtmmoenkmicimcaaGreatDoor
open Go.RowKit
set_option linter.unusedVariables false
set_option maxRecDepth 100000
theorem AuAt.put_D {w : World} {g : Nat} {x : AB} (h : AuAt w g x) (v : Value) : AuAt (w.setCell ⟨g, 31, none⟩ (v)) g { x with D := v } := by
  have h9 := row_set h 31 (v)
  simp only [List.setIfInBounds_toArray, List.set_cons_zero, List.set_cons_succ] at h9
  exact h9
set_option maxHeartbeats 16000000 in
theorem awake33_any (w : World) (E : Env w) : Calls Tryz.prog 7 #[] w (RetQ w (.bool true)) := by
  have eA : Ext w (w.alloc (.cells #[.int .i64 0, .int .i64 1] 3)) := (Below.refl _ _).alloc (Nat.le_refl _) _
  have HAU := Lib.hid (authority_any (w.alloc (.cells #[.int .i64 0, .int .i64 1] 3)) (rdi2 w 0 1) (fun x hx => by
    simp only [List.mem_cons, List.not_mem_nil, or_false] at hx
    unfold wf64
    rcases hx with rfl | rfl <;> omega) (by show 2 ≤ 1000; omega) (E.ext eA).r)
  go_enter Tryz.func7, Tryz.ntmps7
  go_wp2_with fail
  refine HAU.out.mono ?_
  rintro e w1 ⟨b1, x, a, rfl, ar, ai, hst, hli, hV, hD', hZ⟩
  rw [days_awake2] at ai
  rw [state_awake2] at hst
  obtain ⟨c, er, smc, sml, hser, hk0, ac1, ap1, ap2, ap3, mr, mg, mt⟩ := awake33_plain ai hst
  have X1 := eA.tr b1
  have hsg := ar.sg
  have hls := ar.ls
  have hlc := ar.lsec
  have hxs := ar.st.trans hst
  rw [← hsg] at hser hk0 ac1 ap1 ap2 ap3 mr mg mt
  rw [← hls] at sml
  rw [← hls, ← hlc] at hk0 ac1 ap1 ap2 ap3 mr mg mt
  have rdR : RdN w1 x.R [c] := by have h := ar.o1.rd; rw [er] at h; exact h
  have HAB := Lib.hid (show AbOne x from ⟨ar.o1.one, ar.o2.one, ar.o3.one, by rw [hV]; rfl, by rw [hD']; rfl, by rw [hZ]; rfl⟩)
  have H1 := Lib.hid (abRow_one HAB.out)
  obtain ⟨wc, hwc, ec, TC⟩ : ∃ wc, wc = (w1.alloc (.cells (.string ⟨#[]⟩ :: .slice none 0 0 :: .slice none 0 0 :: .slice none 0 0 :: .string ⟨#[]⟩ :: .int .i64 0 :: .int .i64 0 :: .int .i64 0 :: .int .i64 0 :: .int .i64 0 :: .int .i64 0 :: .int .i64 0 :: .int .i64 0 :: .int .i64 0 :: .int .i64 0 :: .string ⟨#[]⟩ :: .int .i64 0 :: .int .i64 0 :: .int .i64 0 :: .int .i64 0 :: .int .i64 0 :: .int .i64 0 :: .int .i64 0 :: .int .i64 0 :: .int .i64 0 :: .int .i64 0 :: .int .i64 0 :: .int .i64 0 :: .int .i64 0 :: .int .i64 0 :: .slice none 0 0 :: .slice none 0 0 :: .slice none 0 0 :: ([] : List Value)).toArray 50)).setRow w1.heap.size (abRow x) ∧ Ext w1 wc ∧ AuAt wc w1.heap.size x :=
    ⟨_, rfl, ext_setRow ((Below.refl _ _).alloc (Nat.le_refl _) _) (Nat.le_refl _) _, row_at (heap_alloc_new' w1 _)⟩
  have HALL := Lib.hid (heap_alloc_new' w1 (.cells (abRow zeroAB) 50))
  obtain ⟨x2, hx2⟩ : ∃ x2 : AB, x2 = { x with D := (.slice (some ⟨wc.heap.size, 0, none⟩) 1 1) } := ⟨_, rfl⟩
  obtain ⟨wd, hwd⟩ : ∃ wd, wd = (wc.alloc (.cells #[.int .i64 1, .int .i64 2, .int .i64 x.sg.num, .string ⟨#[57, 57, 57]⟩, .string ⟨#[65, 66, 49, 48]⟩] 65)).setCell ⟨w1.heap.size, 31, none⟩ (.slice (some ⟨wc.heap.size, 0, none⟩) 1 1) := ⟨_, rfl⟩
  have eD : Ext wc (wc.alloc (.cells #[.int .i64 1, .int .i64 2, .int .i64 x.sg.num, .string ⟨#[57, 57, 57]⟩, .string ⟨#[65, 66, 49, 48]⟩] 65)) := (Below.refl _ _).alloc (Nat.le_refl _) _
  have ow : OwnK (wc.alloc (.cells #[.int .i64 1, .int .i64 2, .int .i64 x.sg.num, .string ⟨#[57, 57, 57]⟩, .string ⟨#[65, 66, 49, 48]⟩] 65)) wc.heap.size 65 5 (.slice (some ⟨wc.heap.size, 0, none⟩) 1 1) (dfCells (awDf x.sg.num)) := OwnK.lit wc 5 #[.int .i64 1, .int .i64 2, .int .i64 x.sg.num, .string ⟨#[57, 57, 57]⟩, .string ⟨#[65, 66, 49, 48]⟩] 65 1 rfl (by unfold maxLen; omega)
  have od : RdD wd (.slice (some ⟨wc.heap.size, 0, none⟩) 1 1) [awDf x.sg.num] := by
    rw [hwd]
    exact (ow.setX (by intro q; have q : some wc.heap.size = some w1.heap.size := q; injection q with q; have := TC.lt; omega)).rd
  have TC2 : AuAt wd w1.heap.size x2 := by rw [hwd, hx2]; exact (TC.ext eD).put_D _
  have e2 : Ext w1 wd := by rw [hwd]; exact ext_set (ec.tr eD) (Nat.le_refl _)
  have HAB2 := Lib.hid (show AbOne x2 by rw [hx2]; exact ⟨HAB.out.R, HAB.out.L, HAB.out.S, HAB.out.V, rfl, HAB.out.Z⟩)
  have f1 : x2.lsec = x.lsec := by rw [hx2]
  have f2 : x2.ls = x.ls := by rw [hx2]
  have f3 : x2.st = utoZ := by rw [hx2]; exact hxs
  have f4 : x2.li = 1 := by rw [hx2]; exact hli
  have f5 : x2.D = (.slice (some ⟨wc.heap.size, 0, none⟩) 1 1) := by rw [hx2]
  have f6 : x2.R = x.R := by rw [hx2]
  have f7 : x2.sg = x.sg := by rw [hx2]
  have XD := X1.tr e2
  have HDV := Lib.hid (by
    have h := deviate_any x2 [awDf x.sg.num] 40010 wd (by rw [f5]; exact od) (fun y hy => by rw [List.mem_singleton.1 hy]; exact ⟨by unfold maxLen; show 3 ≤ _; omega, by unfold maxLen; show 4 ≤ _; omega⟩) (by rw [f2]; exact sml) (by rw [f3]; unfold maxLen; decide) (by omega) (by omega) HAB2.out (E.ext XD).r
    rw [f1, f2, f3, f4] at h
    exact h : Calls Tryz.prog 26 #[abV x2, .int .i64 40010] wd (PubD wd x2 x2.D (awD x.lsec x.sg.num x.ls) (isKD x.lsec ⟨utoZ, 1, 40010, [awDf x.sg.num], x.ls, 0, 0⟩)))
  rw [hk0] at HDV
  rw [← f7] at ap1 ap2 ap3
  have HRR := Lib.hid (show RdN wd x2.R [c] by rw [f6]; exact RdK.ext rdR e2)
  have HE := Lib.hid (E.ext XD).d
  rw [f7] at ap1 ap2 ap3
  generalize awD x.lsec x.sg.num x.ls = r at *
  rw [← f7] at ap1 ap2 ap3
  have HAC1 := Lib.hid ac1
  have HP1 := Lib.hid ap1
  have HP2 := Lib.hid ap2
  have HP3 := Lib.hid ap3
  have HMR := Lib.hid (show smD r.defs by rw [mr]; exact fun y hy => by rw [List.mem_singleton.1 hy]; exact ⟨by unfold maxLen; show 3 ≤ _; omega, by unfold maxLen; show 4 ≤ _; omega⟩)
  have HML := Lib.hid (show r.defs.length ≤ 10 by rw [mr]; show 1 ≤ 10; omega)
  have HDS := Lib.hid (show smDs [r] from fun d hd => by rw [List.mem_singleton.1 hd]; exact ⟨HMR.out, by have := HML.out; omega⟩)
  have HMG := Lib.hid (show smN r.sg by rw [mg]; exact sml)
  have HMT := Lib.hid (show r.st.length ≤ maxLen by rw [mt]; unfold maxLen; decide)
  have HB1 := Lib.hid (stB_one smc)
  have HX2 := Lib.hid XD
  have HT2 := Lib.hid TC2
  have c6 := TC.c6
  have c31 := TC.c31
  have cf := TC.frozen 31
  have cl := TC.lt
  have hwd2 : (wc.alloc (.cells #[.int .i64 1, .int .i64 2, .int .i64 x.sg.num, .string ⟨#[57, 57, 57]⟩, .string ⟨#[65, 66, 49, 48]⟩] 65)).setCell ⟨w1.heap.size, 31, none⟩ (.slice (some ⟨wc.heap.size, 0, none⟩) 1 1) = wd := hwd.symm
  clear rdR ar ai hst hli hV hD' hZ b1 eA X1 ec hsg hls hlc hxs HAU er smc sml hser hk0 ac1 ap1 ap2 ap3 mr mg mt TC TC2 E a XD eD ow od e2 f1 f2 f3 f4 f5 f6 f7 hx2 HAB hwd
  go_upto_region 2 with (refine wpRow_store rfl 50 _ _ rfl rfl w1.heap.size (abRow x) rfl rfl 50 (abRow zeroAB) HALL.out info_au rfl H1.out ?_)
  rw [← hwc]
  clear hwc HALL
  go_upto_region 3 with fail
  try rw [hwd2]
  clear hwd2 c6 c31 cf cl H1
  generalize w1.heap.size = g at *
  have HA := Lib.hid HT2.out.row
  go_wp2_with (refine wpList_load_row rfl 50 _ rfl g rfl 50 (abRow x2) (0, 0) _ HA.out Tryz.underlying50 rfl info_au ?_)
  refine HDV.out.mono ?_
  rintro e w3 ⟨A2, n2, c2, rfl, q2, b3, -⟩
  obtain ⟨x9, hx9⟩ : ∃ x9 : AB, x9 = { x2 with li := x2.li + 1 } := ⟨_, rfl⟩
  have HX9 := Lib.hid (show (abRow x9).all (·.oneCell') = true by rw [hx9]; exact abRow_one ⟨HAB2.out.R, HAB2.out.L, HAB2.out.S, HAB2.out.V, HAB2.out.D, HAB2.out.Z⟩)
  rw [← hx9]
  clear hx9 HDV HA
  obtain ⟨we, hwe⟩ : ∃ we, we = (((w3.alloc (.cells (.string ⟨#[]⟩ :: .slice none 0 0 :: .slice none 0 0 :: .slice none 0 0 :: .string ⟨#[]⟩ :: .int .i64 0 :: .int .i64 0 :: .int .i64 0 :: .int .i64 0 :: .int .i64 0 :: .int .i64 0 :: .int .i64 0 :: .int .i64 0 :: .int .i64 0 :: .int .i64 0 :: .string ⟨#[]⟩ :: .int .i64 0 :: .int .i64 0 :: .int .i64 0 :: .int .i64 0 :: .int .i64 0 :: .int .i64 0 :: .int .i64 0 :: .int .i64 0 :: .int .i64 0 :: .int .i64 0 :: .int .i64 0 :: .int .i64 0 :: .int .i64 0 :: .int .i64 0 :: .slice none 0 0 :: .slice none 0 0 :: .slice none 0 0 :: ([] : List Value)).toArray 50)).alloc (.cells #[.string ⟨#[]⟩, .int .i64 0, .int .i64 0, .slice none 0 0, .string ⟨#[]⟩, .int .i64 0, .int .i64 0, .int .i64 0, .int .i64 0, .int .i64 0, .int .i64 0, .int .i64 0, .int .i64 0, .int .i64 0, .int .i64 0, .int .i64 0, .int .i64 0] 41)).setRow w3.heap.size (abRow x9)).setRow (w3.heap.size + 1) (dvCells r (.slice A2 n2 c2)).toArray := ⟨_, rfl⟩
  have ed : Ext w3 we := by rw [hwe]; exact ext_setRow (ext_setRow (((Below.refl _ _).alloc (Nat.le_refl _) _).alloc (by simp) _) (Nat.le_refl _) _) (Nat.le_succ _) _
  have HD1 := Lib.hid (heap_alloc2_old w3 (.cells (abRow zeroAB) 50) (.cells #[.string ⟨#[]⟩, .int .i64 0, .int .i64 0, .slice none 0 0, .string ⟨#[]⟩, .int .i64 0, .int .i64 0, .int .i64 0, .int .i64 0, .int .i64 0, .int .i64 0, .int .i64 0, .int .i64 0, .int .i64 0, .int .i64 0, .int .i64 0, .int .i64 0] 41))
  have hd2 := heap_alloc2_new w3 (.cells (abRow zeroAB) 50) (.cells #[.string ⟨#[]⟩, .int .i64 0, .int .i64 0, .slice none 0 0, .string ⟨#[]⟩, .int .i64 0, .int .i64 0, .int .i64 0, .int .i64 0, .int .i64 0, .int .i64 0, .int .i64 0, .int .i64 0, .int .i64 0, .int .i64 0, .int .i64 0, .int .i64 0] 41)
  have HD2 := Lib.hid (show (((w3.alloc (.cells (.string ⟨#[]⟩ :: .slice none 0 0 :: .slice none 0 0 :: .slice none 0 0 :: .string ⟨#[]⟩ :: .int .i64 0 :: .int .i64 0 :: .int .i64 0 :: .int .i64 0 :: .int .i64 0 :: .int .i64 0 :: .int .i64 0 :: .int .i64 0 :: .int .i64 0 :: .int .i64 0 :: .string ⟨#[]⟩ :: .int .i64 0 :: .int .i64 0 :: .int .i64 0 :: .int .i64 0 :: .int .i64 0 :: .int .i64 0 :: .int .i64 0 :: .int .i64 0 :: .int .i64 0 :: .int .i64 0 :: .int .i64 0 :: .int .i64 0 :: .int .i64 0 :: .int .i64 0 :: .slice none 0 0 :: .slice none 0 0 :: .slice none 0 0 :: ([] : List Value)).toArray 50)).alloc (.cells #[.string ⟨#[]⟩, .int .i64 0, .int .i64 0, .slice none 0 0, .string ⟨#[]⟩, .int .i64 0, .int .i64 0, .int .i64 0, .int .i64 0, .int .i64 0, .int .i64 0, .int .i64 0, .int .i64 0, .int .i64 0, .int .i64 0, .int .i64 0, .int .i64 0] 41)).setRow w3.heap.size (abRow x9)).heap[w3.heap.size + 1]? = some (.cells #[.string ⟨#[]⟩, .int .i64 0, .int .i64 0, .slice none 0 0, .string ⟨#[]⟩, .int .i64 0, .int .i64 0, .int .i64 0, .int .i64 0, .int .i64 0, .int .i64 0, .int .i64 0, .int .i64 0, .int .i64 0, .int .i64 0, .int .i64 0, .int .i64 0] 41 (0, 0)) from (setRow_block (by omega)).trans hd2)
  have HR1 := Lib.hid (kD_all r (.slice A2 n2 c2) rfl)
  have hrd : DvAt we (w3.heap.size + 1) r (.slice A2 n2 c2) := by rw [hwe]; exact row_at HD2.out
  have BD := b3.tr ed
  have HXD := Lib.hid (HX2.out.tr BD)
  have HTD := Lib.hid (HT2.out.ext BD)
  have HRD := Lib.hid hrd
  have HQD := Lib.hid (RdK.ext q2 ed : RdD we (.slice A2 n2 c2) r.defs)
  have HRRD := Lib.hid (RdK.ext HRR.out BD : RdN we x2.R [c])
  have HED := Lib.hid (HE.out.below BD)
  clear hd2 ed b3 q2 hrd BD HT2 HRR HE HX2
  unfold abV dvV dvCells
  go_upto_region 4 with (first | (refine wpRow_store rfl 50 _ _ rfl rfl w3.heap.size (abRow x9) rfl rfl 50 (abRow zeroAB) HD1.out info_au rfl HX9.out ?_) | (refine wpRow_store rfl 41 _ _ rfl rfl (w3.heap.size + 1) (dvCells r (.slice A2 n2 c2)).toArray rfl rfl 41 #[.string ⟨#[]⟩, .int .i64 0, .int .i64 0, .slice none 0 0, .string ⟨#[]⟩, .int .i64 0, .int .i64 0, .int .i64 0, .int .i64 0, .int .i64 0, .int .i64 0, .int .i64 0, .int .i64 0, .int .i64 0, .int .i64 0, .int .i64 0, .int .i64 0] HD2.out info_dv rfl HR1.out ?_))
  rw [← hwe]
  clear hwe HD1 HD2
  obtain ⟨gr, hgr⟩ : ∃ gr, w3.heap.size + 1 = gr := ⟨_, rfl⟩
  rw [hgr] at HRD
  try rw [hgr]
  clear hgr
  obtain ⟨AR, nR, cR, hR, -⟩ := id HRRD.out
  have HRS := Lib.hid (show RdN we (.slice AR nR cR) [c] by rw [← hR]; exact HRRD.out)
  have c1 : we.cell? ⟨g, 1, none⟩ = some (.slice AR nR cR) := by rw [← hR]; exact HTD.out.c1
  have cl := HTD.out.lt
  have HRR := Lib.hid HRD.out.row
  have HAcc := Lib.hid (daccept_any (AR, nR, cR) (none, 0, 0) (none, 0, 0) (none, 0, 0) (none, 0, 0) ⟨[c], [], [], [], []⟩ r (.slice A2 n2 c2) 40010 we ⟨HRS.out, RdK.nil_ _ _ _, RdX.nil_ _ _ _, RdX.nil_ _ _ _, RdX.nil_ _ _ _⟩ HB1.out HQD.out HMT.out HMR.out HMG.out (by have := HML.out; omega) HED.out)
  rw [HAC1.out] at HAcc
  clear hR HRRD HRS
  go_wp2_with (refine wpList_load_row rfl 41 _ rfl gr rfl 41 (dvCells r (.slice A2 n2 c2)).toArray (0, 0) _ HRR.out Tryz.underlying41 rfl info_dv ?_)
  refine HAcc.out.mono ?_
  rintro e w4 ⟨t0, t1, t2, t3, t4, rfl, SR, b4⟩
  clear c1 cl HRR HAcc HAC1 HB1
  obtain ⟨wf, hwf⟩ : ∃ wf, wf = w4.alloc (.cells #[.slice t0.1 t0.2.1 t0.2.2, .slice t1.1 t1.2.1 t1.2.2, .slice t2.1 t2.2.1 t2.2.2, .slice t3.1 t3.2.1 t3.2.2, .slice t4.1 t4.2.1 t4.2.2] 31) := ⟨_, rfl⟩
  have ef : Ext w4 wf := by rw [hwf]; exact (Below.refl _ _).alloc (Nat.le_refl _) _
  have hf : wf.heap[w4.heap.size]? = some (.cells (stRow t0 t1 t2 t3 t4) 31 (0, 0)) := by rw [hwf]; exact heap_alloc_new' w4 _
  have BF := b4.tr ef
  have HXF := Lib.hid (HXD.out.tr BF)
  have HTF := Lib.hid (HTD.out.ext BF)
  have HSF := Lib.hid (show RdX kD wf (slV t4) [r] from (SR.ext ef).r4)
  have HSB := Lib.hid hf
  have Y0 := Lib.hid (show Ext wf wf from Below.refl _ _)
  clear ef BF SR b4 HXD HTD HRD HQD HED hf
  unfold storeV
  go_upto_region 5 with fail
  rw [← hwf]
  clear hwf
  generalize w4.heap.size = gs at *
  have a6 := (HTF.out.ext Y0.out).c6
  have al := (HTF.out.ext Y0.out).lt
  have hb := (Y0.out.block _ (block_lt HSB.out)).trans HSB.out
  have p0 : wf.cell? ⟨gs, 0, none⟩ = some (.slice t0.1 t0.2.1 t0.2.2) := by rw [cell_of_row _ _ 0 _ _ _ hb]; rfl
  have p1 : wf.cell? ⟨gs, 1, none⟩ = some (.slice t1.1 t1.2.1 t1.2.2) := by rw [cell_of_row _ _ 1 _ _ _ hb]; rfl
  have p2 : wf.cell? ⟨gs, 2, none⟩ = some (.slice t2.1 t2.2.1 t2.2.2) := by rw [cell_of_row _ _ 2 _ _ _ hb]; rfl
  have p3 : wf.cell? ⟨gs, 3, none⟩ = some (.slice t3.1 t3.2.1 t3.2.2) := by rw [cell_of_row _ _ 3 _ _ _ hb]; rfl
  have p4 : wf.cell? ⟨gs, 4, none⟩ = some (.slice t4.1 t4.2.1 t4.2.2) := by rw [cell_of_row _ _ 4 _ _ _ hb]; rfl
  have pl := block_lt hb
  clear hb
  have HC := Lib.hid (applying_any t0 t1 t2 t3 t4 [r] utoZ [49, 48, 48, 48] x2.sg.num wf (HSF.out.ext Y0.out) HDS.out (by unfold maxLen; decide))
  go_wp2_with fail
  refine HC.out.mono ?_
  rintro e u1 ⟨A6, n6, c6, rfl, rd6, b6⟩
  obtain rfl : n6 = 1 := by
    obtain ⟨_, _, _, e', hn', -⟩ := RdD.at_ rd6
    injection e' with _ e2 _
    rw [e2, hn', HP1.out]
  have Y1 := Lib.hid (Y0.out.tr b6)
  clear a6 al p0 p1 p2 p3 p4 pl HC b6 rd6
  have a6 := (HTF.out.ext Y1.out).c6
  have al := (HTF.out.ext Y1.out).lt
  have hb := (Y1.out.block _ (block_lt HSB.out)).trans HSB.out
  have p0 : u1.cell? ⟨gs, 0, none⟩ = some (.slice t0.1 t0.2.1 t0.2.2) := by rw [cell_of_row _ _ 0 _ _ _ hb]; rfl
  have p1 : u1.cell? ⟨gs, 1, none⟩ = some (.slice t1.1 t1.2.1 t1.2.2) := by rw [cell_of_row _ _ 1 _ _ _ hb]; rfl
  have p2 : u1.cell? ⟨gs, 2, none⟩ = some (.slice t2.1 t2.2.1 t2.2.2) := by rw [cell_of_row _ _ 2 _ _ _ hb]; rfl
  have p3 : u1.cell? ⟨gs, 3, none⟩ = some (.slice t3.1 t3.2.1 t3.2.2) := by rw [cell_of_row _ _ 3 _ _ _ hb]; rfl
  have p4 : u1.cell? ⟨gs, 4, none⟩ = some (.slice t4.1 t4.2.1 t4.2.2) := by rw [cell_of_row _ _ 4 _ _ _ hb]; rfl
  have pl := block_lt hb
  clear hb
  have HC := Lib.hid (applying_any t0 t1 t2 t3 t4 [r] utoZ [57, 57, 56] x2.sg.num u1 (HSF.out.ext Y1.out) HDS.out (by unfold maxLen; decide))
  go_wp2_with fail
  refine HC.out.mono ?_
  rintro e u2 ⟨A6, n6, c6, rfl, rd6, b6⟩
  obtain rfl : n6 = 0 := by
    obtain ⟨_, _, _, e', hn', -⟩ := RdD.at_ rd6
    injection e' with _ e2 _
    rw [e2, hn', HP2.out]
  have Y2 := Lib.hid (Y1.out.tr b6)
  clear a6 al p0 p1 p2 p3 p4 pl HC b6 rd6
  have a6 := (HTF.out.ext Y2.out).c6
  have al := (HTF.out.ext Y2.out).lt
  have hb := (Y2.out.block _ (block_lt HSB.out)).trans HSB.out
  have p0 : u2.cell? ⟨gs, 0, none⟩ = some (.slice t0.1 t0.2.1 t0.2.2) := by rw [cell_of_row _ _ 0 _ _ _ hb]; rfl
  have p1 : u2.cell? ⟨gs, 1, none⟩ = some (.slice t1.1 t1.2.1 t1.2.2) := by rw [cell_of_row _ _ 1 _ _ _ hb]; rfl
  have p2 : u2.cell? ⟨gs, 2, none⟩ = some (.slice t2.1 t2.2.1 t2.2.2) := by rw [cell_of_row _ _ 2 _ _ _ hb]; rfl
  have p3 : u2.cell? ⟨gs, 3, none⟩ = some (.slice t3.1 t3.2.1 t3.2.2) := by rw [cell_of_row _ _ 3 _ _ _ hb]; rfl
  have p4 : u2.cell? ⟨gs, 4, none⟩ = some (.slice t4.1 t4.2.1 t4.2.2) := by rw [cell_of_row _ _ 4 _ _ _ hb]; rfl
  have pl := block_lt hb
  clear hb
  have HC := Lib.hid (applying_any t0 t1 t2 t3 t4 [r] deuN [49, 48, 48, 48] x2.sg.num u2 (HSF.out.ext Y2.out) HDS.out (by unfold maxLen; decide))
  go_wp2_with fail
  refine HC.out.mono ?_
  rintro e u3 ⟨A6, n6, c6, rfl, rd6, b6⟩
  obtain rfl : n6 = 0 := by
    obtain ⟨_, _, _, e', hn', -⟩ := RdD.at_ rd6
    injection e' with _ e2 _
    rw [e2, hn', HP3.out]
  have Y3 := Lib.hid (Y2.out.tr b6)
  clear a6 al p0 p1 p2 p3 p4 pl HC b6 rd6
  go_wp2_with fail
  go_ret
  exact ⟨rfl, HXF.out.tr Y3.out⟩
end Go.Proofs.YtmmoenkmicimcaaGreatDoor
