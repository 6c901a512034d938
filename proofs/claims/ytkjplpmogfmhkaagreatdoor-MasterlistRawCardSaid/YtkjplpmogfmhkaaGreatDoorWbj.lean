/- Parts Uo Mn of the proof. -/
import Derived.Test.YtkjplpmogfmhkaaGreatDoorWbh
import Derived.Test.YtkjplpmogfmhkaaGreatDoorWbi
import Derived.Test.YtkjplpmogfmhkaaGreatDoorWbg
import Derived.Deep.CutRange
namespace Go.Proofs.YtkjplpmogfmhkaaGreatDoor
open Go.RowKit
set_option linter.unusedVariables false
set_option maxRecDepth 100000
theorem rdi2 (W : World) (x y : Int) : RdI (W.alloc (.cells #[.int .i64 x, .int .i64 y] 3)) .i64 (.slice (some ⟨W.heap.size, 0, none⟩) 2 2) [x, y] := Rd.lit W _ _ 2 rfl (by unfold maxLen; omega)
theorem days_awake2 : daysA [0, 1] = [40000] := by decide
theorem state_awake2 : stateN (dv [0, 1] 4) = utoZ := by decide
theorem stB_one {c : NC} (h : smN c) : StB ⟨[c], [], [], [], []⟩ := ⟨fun x hx => by rw [List.mem_singleton.1 hx]; exact h, fun x hx => (by cases hx), fun x hx => (by cases hx), fun x hx => (by cases hx), fun x hx => (by cases hx), by show 1 ≤ 10000; omega, by show 0 ≤ 10000; omega, by show 0 ≤ 20; omega, by show 0 ≤ 10000; omega, by show 0 ≤ 10000; omega⟩
theorem days_awake3 : daysA [1, 2] = [40000] := by decide
theorem state_awake3 : stateN (dv [1, 2] 4) = deuN := by decide
theorem stB_ms {c d : NC} {m : MA} (h : smN c) (k : smN d) (hr : m.roots = [d]) : StB ⟨[c], [], [m], [], []⟩ := ⟨fun x hx => by rw [List.mem_singleton.1 hx]; exact h, fun x hx => (by cases hx), fun x hx => by rw [List.mem_singleton.1 hx, hr]; exact ⟨fun y hy => by rw [List.mem_singleton.1 hy]; exact k, by show 1 ≤ 10000; omega⟩, fun x hx => (by cases hx), fun x hx => (by cases hx), by show 1 ≤ 10000; omega, by show 0 ≤ 10000; omega, by show 1 ≤ 20; omega, by show 0 ≤ 10000; omega, by show 0 ≤ 10000; omega⟩
set_option maxHeartbeats 16000000 in
theorem awake31_any (w : World) (E : Env w) : Calls Tryz.prog 47 #[] w (RetQ w (.bool true)) := by
 have eA : Ext w (w.alloc (.cells #[.int .i64 0, .int .i64 1] 3)) := (Below.refl _ _).alloc (Nat.le_refl _) _
 have HAU := Lib.hid (authority_any (w.alloc (.cells #[.int .i64 0, .int .i64 1] 3)) (rdi2 w 0 1) (fun x hx => by
  simp only [List.mem_cons, List.not_mem_nil, or_false] at hx
  unfold wf64
  rcases hx with rfl | rfl <;> omega) (by show 2 ≤ 1000; omega) (E.ext eA).r)
 go_enter Tryz.func47, Tryz.ntmps47
 go_wp2_with fail
 refine HAU.out.mono ?_
 rintro e w1 ⟨b1, x, a, rfl, ar, ai, hst, hli, hV, hD', hZ⟩
 rw [days_awake2] at ai
 rw [state_awake2] at hst
 have X1 := eA.tr b1
 have eB : Ext w1 (w1.alloc (.cells #[.int .i64 1, .int .i64 2] 3)) := (Below.refl _ _).alloc (Nat.le_refl _) _
 have HAU2 := Lib.hid (authority_any (w1.alloc (.cells #[.int .i64 1, .int .i64 2] 3)) (rdi2 w1 1 2) (fun x hx => by
  simp only [List.mem_cons, List.not_mem_nil, or_false] at hx
  unfold wf64
  rcases hx with rfl | rfl <;> omega) (by show 2 ≤ 1000; omega) (E.ext (X1.tr eB)).r)
 have HAB := Lib.hid (show AbOne x from ⟨ar.o1.one, ar.o2.one, ar.o3.one, by rw [hV]; rfl, by rw [hD']; rfl, by rw [hZ]; rfl⟩)
 have HAR := Lib.hid (And.intro ar (And.intro ai (And.intro hst hli)))
 clear ar ai hst hli hV hD' hZ HAU
 unfold abV
 go_wp2_with fail
 refine HAU2.out.mono ?_
 rintro e w2 ⟨b2, y, b, rfl, br, bi, hst2, hli2, hV2, hD2, hZ2⟩
 rw [days_awake3] at bi
 rw [state_awake3] at hst2
 obtain ⟨ar, ai, hst, hli⟩ := HAR.out
 obtain ⟨ca, cb, er, er2, sca, scb, sls, hk0, ac1, ac2, ac3, rt2, mr, mg, mt⟩ := awake31_plain ai hst bi hst2
 have X2 := X1.tr (eB.tr b2)
 have hls := ar.ls
 have hlc := ar.lsec
 have hxs := ar.st.trans hst
 rw [← hls] at sls
 rw [← hls, ← hlc] at hk0 ac1 ac2 ac3 rt2 mr mg mt
 have rdR : RdN w1 x.R [ca] := by have h := ar.o1.rd; rw [er] at h; exact h
 have rdY : RdN w2 y.R [cb] := by have h := br.o1.rd; rw [er2] at h; exact h
 have HBB := Lib.hid (show AbOne y from ⟨br.o1.one, br.o2.one, br.o3.one, by rw [hV2]; rfl, by rw [hD2]; rfl, by rw [hZ2]; rfl⟩)
 have H1 := Lib.hid (abRow_one HAB.out)
 have H2 := Lib.hid (abRow_one HBB.out)
 obtain ⟨wc, hwc⟩ : ∃ wc, wc = (((w2.alloc (.cells (.string ⟨#[]⟩ :: .slice none 0 0 :: .slice none 0 0 :: .slice none 0 0 :: .string ⟨#[]⟩ :: .int .i64 0 :: .int .i64 0 :: .int .i64 0 :: .int .i64 0 :: .int .i64 0 :: .int .i64 0 :: .int .i64 0 :: .int .i64 0 :: .int .i64 0 :: .int .i64 0 :: .string ⟨#[]⟩ :: .int .i64 0 :: .int .i64 0 :: .int .i64 0 :: .int .i64 0 :: .int .i64 0 :: .int .i64 0 :: .int .i64 0 :: .int .i64 0 :: .int .i64 0 :: .int .i64 0 :: .int .i64 0 :: .int .i64 0 :: .int .i64 0 :: .int .i64 0 :: .slice none 0 0 :: .slice none 0 0 :: .slice none 0 0 :: ([] : List Value)).toArray 98)).alloc (.cells (.string ⟨#[]⟩ :: .slice none 0 0 :: .slice none 0 0 :: .slice none 0 0 :: .string ⟨#[]⟩ :: .int .i64 0 :: .int .i64 0 :: .int .i64 0 :: .int .i64 0 :: .int .i64 0 :: .int .i64 0 :: .int .i64 0 :: .int .i64 0 :: .int .i64 0 :: .int .i64 0 :: .string ⟨#[]⟩ :: .int .i64 0 :: .int .i64 0 :: .int .i64 0 :: .int .i64 0 :: .int .i64 0 :: .int .i64 0 :: .int .i64 0 :: .int .i64 0 :: .int .i64 0 :: .int .i64 0 :: .int .i64 0 :: .int .i64 0 :: .int .i64 0 :: .int .i64 0 :: .slice none 0 0 :: .slice none 0 0 :: .slice none 0 0 :: ([] : List Value)).toArray 98)).setRow w2.heap.size (abRow x)).setRow (w2.heap.size + 1) (abRow y) := ⟨_, rfl⟩
 have ec : Ext w2 wc := by rw [hwc]; exact ext_setRow (ext_setRow (((Below.refl _ _).alloc (Nat.le_refl _) _).alloc (by simp) _) (Nat.le_refl _) _) (Nat.le_succ _) _
 have HL1 := Lib.hid (heap_alloc2_old w2 (.cells (abRow zeroAB) 98) (.cells (abRow zeroAB) 98))
 have hl2 := heap_alloc2_new w2 (.cells (abRow zeroAB) 98) (.cells (abRow zeroAB) 98)
 have HL2 := Lib.hid (show (((w2.alloc (.cells (.string ⟨#[]⟩ :: .slice none 0 0 :: .slice none 0 0 :: .slice none 0 0 :: .string ⟨#[]⟩ :: .int .i64 0 :: .int .i64 0 :: .int .i64 0 :: .int .i64 0 :: .int .i64 0 :: .int .i64 0 :: .int .i64 0 :: .int .i64 0 :: .int .i64 0 :: .int .i64 0 :: .string ⟨#[]⟩ :: .int .i64 0 :: .int .i64 0 :: .int .i64 0 :: .int .i64 0 :: .int .i64 0 :: .int .i64 0 :: .int .i64 0 :: .int .i64 0 :: .int .i64 0 :: .int .i64 0 :: .int .i64 0 :: .int .i64 0 :: .int .i64 0 :: .int .i64 0 :: .slice none 0 0 :: .slice none 0 0 :: .slice none 0 0 :: ([] : List Value)).toArray 98)).alloc (.cells (.string ⟨#[]⟩ :: .slice none 0 0 :: .slice none 0 0 :: .slice none 0 0 :: .string ⟨#[]⟩ :: .int .i64 0 :: .int .i64 0 :: .int .i64 0 :: .int .i64 0 :: .int .i64 0 :: .int .i64 0 :: .int .i64 0 :: .int .i64 0 :: .int .i64 0 :: .int .i64 0 :: .string ⟨#[]⟩ :: .int .i64 0 :: .int .i64 0 :: .int .i64 0 :: .int .i64 0 :: .int .i64 0 :: .int .i64 0 :: .int .i64 0 :: .int .i64 0 :: .int .i64 0 :: .int .i64 0 :: .int .i64 0 :: .int .i64 0 :: .int .i64 0 :: .int .i64 0 :: .slice none 0 0 :: .slice none 0 0 :: .slice none 0 0 :: ([] : List Value)).toArray 98)).setRow w2.heap.size (abRow x)).heap[w2.heap.size + 1]? = some (.cells (abRow zeroAB) 98 (0, 0)) from (setRow_block (by omega)).trans hl2)
 have TX : AuAt wc w2.heap.size x := by rw [hwc]; exact (setRow_block (by omega)).trans (row_at HL1.out)
 have TY : AuAt wc (w2.heap.size + 1) y := by rw [hwc]; exact row_at HL2.out
 have XC := Lib.hid (X2.tr ec)
 have HRX := Lib.hid (RdK.ext rdR ((eB.tr b2).tr ec) : RdN wc x.R [ca])
 have HRY := Lib.hid (RdK.ext rdY ec : RdN wc y.R [cb])
 have HPB := Lib.hid (by
  have h := published_any x [cb] y.R 40010 wc HRY.out (fun q hq => by rw [List.mem_singleton.1 hq]; exact scb) sls (by rw [hxs]; unfold maxLen; decide) (by omega) (by omega) HAB.out (E.ext XC.out).r
  rw [hxs, hli] at h
  exact h : Calls Tryz.prog 131 #[abV x, y.R, .int .i64 40010] wc (PubR wc x y.R (awM x.lsec cb x.ls) (isKM x.lsec ⟨utoZ, 1, 40010, [cb], x.ls, 0, 0⟩)))
 rw [hk0] at HPB
 have HE := Lib.hid (E.ext XC.out).d
 generalize awM x.lsec cb x.ls = r at *
 have HAC1 := Lib.hid ac1
 have HAC2 := Lib.hid ac2
 have HAC3 := Lib.hid ac3
 have HRT := Lib.hid rt2
 have HMR := Lib.hid (show smL r.roots by rw [mr]; exact fun q hq => by rw [List.mem_singleton.1 hq]; exact scb)
 have HML := Lib.hid (show r.roots.length ≤ 10 by rw [mr]; show 1 ≤ 10; omega)
 have HMG := Lib.hid (show smN r.sg by rw [mg]; exact sls)
 have HMT := Lib.hid (show r.st.length ≤ maxLen by rw [mt]; unfold maxLen; decide)
 have HB1 := Lib.hid (stB_one sca)
 have HB2 := Lib.hid (stB_ms sca scb mr)
 have HB3 := Lib.hid (stB_one scb)
 have HTX := Lib.hid TX
 have HTY := Lib.hid TY
 clear rdR rdY ar ai br bi hst hst2 hli hli2 hV2 hD2 hZ2 b1 b2 eA eB X1 X2 ec hls hlc hxs HAU2 er er2 sca scb sls hk0 ac1 ac2 ac3 rt2 mr mg mt TX TY E a b hl2 HAR HBB
 unfold abV
 go_upto_region 2 with (first | (refine wpRow_store rfl 98 _ _ rfl rfl w2.heap.size (abRow x) rfl rfl 98 (abRow zeroAB) HL1.out info_au rfl H1.out ?_) | (refine wpRow_store rfl 98 _ _ rfl rfl (w2.heap.size + 1) (abRow y) rfl rfl 98 (abRow zeroAB) HL2.out info_au rfl H2.out ?_))
 rw [← hwc]
 clear hwc HL1 HL2 H1 H2
 obtain ⟨gy, hgy⟩ : ∃ gy, w2.heap.size + 1 = gy := ⟨_, rfl⟩
 rw [hgy] at HTY
 try rw [hgy]
 clear hgy
 generalize w2.heap.size = g at *
 obtain ⟨AY, nY, cY, hY, -⟩ := id HRY.out
 rw [hY] at HPB HRY
 have HA := Lib.hid HTX.out.row
 have y1 : wc.cell? ⟨gy, 1, none⟩ = some (.slice AY nY cY) := by rw [← hY]; exact HTY.out.c1
 have yl := HTY.out.lt
 go_wp2_with (refine wpList_load_row rfl 98 _ rfl g rfl 98 (abRow x) (0, 0) _ HA.out Tryz.underlying98 rfl info_au ?_)
 refine HPB.out.mono ?_
 rintro e w3 ⟨A2, n2, c2, rfl, q2, b3, -⟩
 obtain ⟨x9, hx9⟩ : ∃ x9 : AB, x9 = { x with li := x.li + 1 } := ⟨_, rfl⟩
 have HX9 := Lib.hid (show (abRow x9).all (·.oneCell') = true by rw [hx9]; exact abRow_one ⟨HAB.out.R, HAB.out.L, HAB.out.S, HAB.out.V, HAB.out.D, HAB.out.Z⟩)
 rw [← hx9]
 clear hx9 HPB HA y1 yl
 obtain ⟨wd, hwd⟩ : ∃ wd, wd = (((w3.alloc (.cells (.string ⟨#[]⟩ :: .slice none 0 0 :: .slice none 0 0 :: .slice none 0 0 :: .string ⟨#[]⟩ :: .int .i64 0 :: .int .i64 0 :: .int .i64 0 :: .int .i64 0 :: .int .i64 0 :: .int .i64 0 :: .int .i64 0 :: .int .i64 0 :: .int .i64 0 :: .int .i64 0 :: .string ⟨#[]⟩ :: .int .i64 0 :: .int .i64 0 :: .int .i64 0 :: .int .i64 0 :: .int .i64 0 :: .int .i64 0 :: .int .i64 0 :: .int .i64 0 :: .int .i64 0 :: .int .i64 0 :: .int .i64 0 :: .int .i64 0 :: .int .i64 0 :: .int .i64 0 :: .slice none 0 0 :: .slice none 0 0 :: .slice none 0 0 :: ([] : List Value)).toArray 98)).alloc (.cells #[.string ⟨#[]⟩, .int .i64 0, .int .i64 0, .slice none 0 0, .string ⟨#[]⟩, .int .i64 0, .int .i64 0, .int .i64 0, .int .i64 0, .int .i64 0, .int .i64 0, .int .i64 0, .int .i64 0, .int .i64 0, .int .i64 0, .int .i64 0, .int .i64 0] 80)).setRow w3.heap.size (abRow x9)).setRow (w3.heap.size + 1) (maCells r (.slice A2 n2 c2)).toArray := ⟨_, rfl⟩
 have ed : Ext w3 wd := by rw [hwd]; exact ext_setRow (ext_setRow (((Below.refl _ _).alloc (Nat.le_refl _) _).alloc (by simp) _) (Nat.le_refl _) _) (Nat.le_succ _) _
 have HD1 := Lib.hid (heap_alloc2_old w3 (.cells (abRow zeroAB) 98) (.cells #[.string ⟨#[]⟩, .int .i64 0, .int .i64 0, .slice none 0 0, .string ⟨#[]⟩, .int .i64 0, .int .i64 0, .int .i64 0, .int .i64 0, .int .i64 0, .int .i64 0, .int .i64 0, .int .i64 0, .int .i64 0, .int .i64 0, .int .i64 0, .int .i64 0] 80))
 have hd2 := heap_alloc2_new w3 (.cells (abRow zeroAB) 98) (.cells #[.string ⟨#[]⟩, .int .i64 0, .int .i64 0, .slice none 0 0, .string ⟨#[]⟩, .int .i64 0, .int .i64 0, .int .i64 0, .int .i64 0, .int .i64 0, .int .i64 0, .int .i64 0, .int .i64 0, .int .i64 0, .int .i64 0, .int .i64 0, .int .i64 0] 80)
 have HD2 := Lib.hid (show (((w3.alloc (.cells (.string ⟨#[]⟩ :: .slice none 0 0 :: .slice none 0 0 :: .slice none 0 0 :: .string ⟨#[]⟩ :: .int .i64 0 :: .int .i64 0 :: .int .i64 0 :: .int .i64 0 :: .int .i64 0 :: .int .i64 0 :: .int .i64 0 :: .int .i64 0 :: .int .i64 0 :: .int .i64 0 :: .string ⟨#[]⟩ :: .int .i64 0 :: .int .i64 0 :: .int .i64 0 :: .int .i64 0 :: .int .i64 0 :: .int .i64 0 :: .int .i64 0 :: .int .i64 0 :: .int .i64 0 :: .int .i64 0 :: .int .i64 0 :: .int .i64 0 :: .int .i64 0 :: .int .i64 0 :: .slice none 0 0 :: .slice none 0 0 :: .slice none 0 0 :: ([] : List Value)).toArray 98)).alloc (.cells #[.string ⟨#[]⟩, .int .i64 0, .int .i64 0, .slice none 0 0, .string ⟨#[]⟩, .int .i64 0, .int .i64 0, .int .i64 0, .int .i64 0, .int .i64 0, .int .i64 0, .int .i64 0, .int .i64 0, .int .i64 0, .int .i64 0, .int .i64 0, .int .i64 0] 80)).setRow w3.heap.size (abRow x9)).heap[w3.heap.size + 1]? = some (.cells #[.string ⟨#[]⟩, .int .i64 0, .int .i64 0, .slice none 0 0, .string ⟨#[]⟩, .int .i64 0, .int .i64 0, .int .i64 0, .int .i64 0, .int .i64 0, .int .i64 0, .int .i64 0, .int .i64 0, .int .i64 0, .int .i64 0, .int .i64 0, .int .i64 0] 80 (0, 0)) from (setRow_block (by omega)).trans hd2)
 have HR1 := Lib.hid (kM_all r (.slice A2 n2 c2) rfl)
 have hrd : MaAt wd (w3.heap.size + 1) r (.slice A2 n2 c2) := by rw [hwd]; exact row_at HD2.out
 have BD := b3.tr ed
 have HXD := Lib.hid (XC.out.tr BD)
 have HTD := Lib.hid (HTX.out.ext BD)
 have HTE := Lib.hid (HTY.out.ext BD)
 have HRD := Lib.hid hrd
 have HQD := Lib.hid (RdK.ext q2 ed : RdN wd (.slice A2 n2 c2) r.roots)
 have HRRD := Lib.hid (RdK.ext HRX.out BD : RdN wd x.R [ca])
 have HRYD := Lib.hid (RdK.ext HRY.out BD : RdN wd (.slice AY nY cY) [cb])
 have HED := Lib.hid (HE.out.below BD)
 clear hd2 ed b3 q2 hrd BD HTX HTY HRX HRY HE XC
 unfold abV maV maCells
 go_upto_region 3 with (first | (refine wpRow_store rfl 98 _ _ rfl rfl w3.heap.size (abRow x9) rfl rfl 98 (abRow zeroAB) HD1.out info_au rfl HX9.out ?_) | (refine wpRow_store rfl 80 _ _ rfl rfl (w3.heap.size + 1) (maCells r (.slice A2 n2 c2)).toArray rfl rfl 80 #[.string ⟨#[]⟩, .int .i64 0, .int .i64 0, .slice none 0 0, .string ⟨#[]⟩, .int .i64 0, .int .i64 0, .int .i64 0, .int .i64 0, .int .i64 0, .int .i64 0, .int .i64 0, .int .i64 0, .int .i64 0, .int .i64 0, .int .i64 0, .int .i64 0] HD2.out info_ma rfl HR1.out ?_))
 rw [← hwd]
 clear hwd HD1 HD2
 obtain ⟨gr, hgr⟩ : ∃ gr, w3.heap.size + 1 = gr := ⟨_, rfl⟩
 rw [hgr] at HRD
 try rw [hgr]
 clear hgr
 obtain ⟨AR, nR, cR, hR, -⟩ := id HRRD.out
 have HRS := Lib.hid (show RdN wd (.slice AR nR cR) [ca] by rw [← hR]; exact HRRD.out)
 have c1 : wd.cell? ⟨g, 1, none⟩ = some (.slice AR nR cR) := by rw [← hR]; exact HTD.out.c1
 have cl := HTD.out.lt
 have HRR := Lib.hid HRD.out.row
 have HAcc := Lib.hid (maccept_any (AR, nR, cR) (none, 0, 0) (none, 0, 0) (none, 0, 0) (none, 0, 0) ⟨[ca], [], [], [], []⟩ r (.slice A2 n2 c2) 40010 wd ⟨HRS.out, RdK.nil_ _ _ _, RdX.nil_ _ _ _, RdX.nil_ _ _ _, RdX.nil_ _ _ _⟩ HB1.out HQD.out HMT.out HMR.out HMG.out (by have := HML.out; omega) HED.out)
 rw [HAC1.out] at HAcc
 clear HRRD HRS
 go_wp2_with (refine wpList_load_row rfl 80 _ rfl gr rfl 80 (maCells r (.slice A2 n2 c2)).toArray (0, 0) _ HRR.out Tryz.underlying80 rfl info_ma ?_)
 refine HAcc.out.mono ?_
 rintro e w4 ⟨t0, t1, t2, t3, t4, rfl, SR, b4⟩
 clear c1 cl HRR HAcc HAC1 HB1 hR
 obtain ⟨wf, hwf⟩ : ∃ wf, wf = w4.alloc (.cells #[.slice t0.1 t0.2.1 t0.2.2, .slice t1.1 t1.2.1 t1.2.2, .slice t2.1 t2.2.1 t2.2.2, .slice t3.1 t3.2.1 t3.2.2, .slice t4.1 t4.2.1 t4.2.2] 75) := ⟨_, rfl⟩
 have ef : Ext w4 wf := by rw [hwf]; exact (Below.refl _ _).alloc (Nat.le_refl _) _
 have hf : wf.heap[w4.heap.size]? = some (.cells (stRow t0 t1 t2 t3 t4) 75 (0, 0)) := by rw [hwf]; exact heap_alloc_new' w4 _
 have BF := b4.tr ef
 have HXF := Lib.hid (HXD.out.tr BF)
 have HTF := Lib.hid (HTE.out.ext BF)
 have HRF0 := Lib.hid (HRD.out.ext BF)
 have HRF := Lib.hid HRF0.out.row
 have HQF := Lib.hid (RdK.ext HQD.out BF : RdN wf (.slice A2 n2 c2) r.roots)
 have HRYF := Lib.hid (RdK.ext HRYD.out BF : RdN wf (.slice AY nY cY) [cb])
 have HEF := Lib.hid (HED.out.below BF)
 have HSF := Lib.hid (show StR wf t0 t1 t2 t3 t4 ⟨[ca], [], [r], [], []⟩ from SR.ext ef)
 have HSB := Lib.hid hf
 clear ef BF SR b4 HXD HTD HTE HRD HQD HRYD HED hf
 unfold storeV
 go_upto_region 4 with fail
 rw [← hwf]
 clear hwf
 generalize w4.heap.size = gs at *
 have HAcc := Lib.hid (maccept_any t0 t1 t2 t3 t4 ⟨[ca], [], [r], [], []⟩ r (.slice A2 n2 c2) 40010 wf HSF.out HB2.out HQF.out HMT.out HMR.out HMG.out (by have := HML.out; omega) HEF.out)
 rw [HAC2.out] at HAcc
 go_wp2_with (first | (refine wpList_load_row rfl 75 _ rfl gs rfl 75 (stRow t0 t1 t2 t3 t4) (0, 0) _ HSB.out Tryz.underlying75 rfl info_st ?_) | (refine wpList_load_row rfl 80 _ rfl gr rfl 80 (maCells r (.slice A2 n2 c2)).toArray (0, 0) _ HRF.out Tryz.underlying80 rfl info_ma ?_))
 refine HAcc.out.mono ?_
 rintro e w5 ⟨v0, v1, v2, v3, v4, rfl, -, b5⟩
 clear HAcc HAC2 HRF
 obtain ⟨wg, hwg⟩ : ∃ wg, wg = w5.alloc (.cells #[.slice v0.1 v0.2.1 v0.2.2, .slice v1.1 v1.2.1 v1.2.2, .slice v2.1 v2.2.1 v2.2.2, .slice v3.1 v3.2.1 v3.2.2, .slice v4.1 v4.2.1 v4.2.2] 75) := ⟨_, rfl⟩
 have eg : Ext w5 wg := by rw [hwg]; exact (Below.refl _ _).alloc (Nat.le_refl _) _
 have BG := b5.tr eg
 have HXG := Lib.hid (HXF.out.tr BG)
 have HTG := Lib.hid (HTF.out.ext BG)
 have HRG := Lib.hid (HRF0.out.ext BG).row
 have HQG := Lib.hid (RdK.ext HQF.out BG : RdN wg (.slice A2 n2 c2) r.roots)
 have HRYG := Lib.hid (RdK.ext HRYF.out BG : RdN wg (.slice AY nY cY) [cb])
 have HEG := Lib.hid (HEF.out.below BG)
 have HSG := Lib.hid (HSF.out.ext BG)
 have HBG := Lib.hid ((BG.block _ (block_lt HSB.out)).trans HSB.out)
 clear eg BG b5 HXF HTF HRF0 HQF HRYF HEF HSF HSB
 unfold storeV
 go_upto_region 5 with fail
 rw [← hwg]
 clear hwg
 have y1 : wg.cell? ⟨gy, 1, none⟩ = some (.slice AY nY cY) := by rw [← hY]; exact HTG.out.c1
 have yl := HTG.out.lt
 have HAcc := Lib.hid (maccept_any (AY, nY, cY) (none, 0, 0) (none, 0, 0) (none, 0, 0) (none, 0, 0) ⟨[cb], [], [], [], []⟩ r (.slice A2 n2 c2) 40010 wg ⟨HRYG.out, RdK.nil_ _ _ _, RdX.nil_ _ _ _, RdX.nil_ _ _ _, RdX.nil_ _ _ _⟩ HB3.out HQG.out HMT.out HMR.out HMG.out (by have := HML.out; omega) HEG.out)
 rw [HAC3.out] at HAcc
 go_wp2_with (refine wpList_load_row rfl 80 _ rfl gr rfl 80 (maCells r (.slice A2 n2 c2)).toArray (0, 0) _ HRG.out Tryz.underlying80 rfl info_ma ?_)
 refine HAcc.out.mono ?_
 rintro e w6 ⟨u0, u1, u2, u3, u4, rfl, -, b6⟩
 clear HAcc HAC3 y1 yl HRG HQG HRYG HEG HTG hY
 obtain ⟨wh, hwh⟩ : ∃ wh, wh = w6.alloc (.cells #[.slice u0.1 u0.2.1 u0.2.2, .slice u1.1 u1.2.1 u1.2.2, .slice u2.1 u2.2.1 u2.2.2, .slice u3.1 u3.2.1 u3.2.2, .slice u4.1 u4.2.1 u4.2.2] 75) := ⟨_, rfl⟩
 have eh : Ext w6 wh := by rw [hwh]; exact (Below.refl _ _).alloc (Nat.le_refl _) _
 have BH := b6.tr eh
 have HXH := Lib.hid (HXG.out.tr BH)
 have HSH := Lib.hid (HSG.out.ext BH)
 have hb := (BH.block _ (block_lt HBG.out)).trans HBG.out
 clear eh BH b6 HXG HSG HBG
 unfold storeV
 go_upto_region 6 with fail
 rw [← hwh]
 clear hwh
 have p0 : wh.cell? ⟨gs, 0, none⟩ = some (.slice t0.1 t0.2.1 t0.2.2) := by rw [cell_of_row _ _ 0 _ _ _ hb]; rfl
 have p1 : wh.cell? ⟨gs, 1, none⟩ = some (.slice t1.1 t1.2.1 t1.2.2) := by rw [cell_of_row _ _ 1 _ _ _ hb]; rfl
 have p2 : wh.cell? ⟨gs, 2, none⟩ = some (.slice t2.1 t2.2.1 t2.2.2) := by rw [cell_of_row _ _ 2 _ _ _ hb]; rfl
 have p3 : wh.cell? ⟨gs, 3, none⟩ = some (.slice t3.1 t3.2.1 t3.2.2) := by rw [cell_of_row _ _ 3 _ _ _ hb]; rfl
 have p4 : wh.cell? ⟨gs, 4, none⟩ = some (.slice t4.1 t4.2.1 t4.2.2) := by rw [cell_of_row _ _ 4 _ _ _ hb]; rfl
 have pl := block_lt hb
 clear hb
 have HRO := Lib.hid (roots_any t0 t1 t2 t3 t4 ⟨[ca], [], [r], [], []⟩ wh HSH.out.r0 HSH.out.r2 HB2.out)
 go_wp2_with fail
 refine HRO.out.mono ?_
 rintro e w7 ⟨b7, A7, c7, rfl, -⟩
 have X9 := Lib.hid (HXH.out.tr b7)
 rw [HRT.out]
 clear p0 p1 p2 p3 p4 pl HRO b7
 go_wp2_with fail
 go_ret
 exact ⟨rfl, X9.out⟩
end Go.Proofs.YtkjplpmogfmhkaaGreatDoor
