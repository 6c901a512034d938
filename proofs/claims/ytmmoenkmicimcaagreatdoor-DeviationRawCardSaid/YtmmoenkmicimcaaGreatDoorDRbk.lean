/- Parts Js Jv of the proof. -/
import Derived.Test.YtmmoenkmicimcaaGreatDoorDRbj
import Derived.BigRegion
import Derived.Deep.CutRange
import Derived.Deep.RegionWith
import Derived.Test.YtmmoenkmicimcaaGreatDoorDRav
namespace Go.Proofs.YtmmoenkmicimcaaGreatDoor
open Go.RowKit
set_option linter.unusedVariables false
set_option maxRecDepth 100000
theorem au_zero_alloc (w : World) : ∃ wz, wz = w.alloc (.cells (.string ⟨#[]⟩ :: .slice none 0 0 :: .slice none 0 0 :: .slice none 0 0 :: .string ⟨#[]⟩ :: .int .i64 0 :: .int .i64 0 :: .int .i64 0 :: .int .i64 0 :: .int .i64 0 :: .int .i64 0 :: .int .i64 0 :: .int .i64 0 :: .int .i64 0 :: .int .i64 0 :: .string ⟨#[]⟩ :: .int .i64 0 :: .int .i64 0 :: .int .i64 0 :: .int .i64 0 :: .int .i64 0 :: .int .i64 0 :: .int .i64 0 :: .int .i64 0 :: .int .i64 0 :: .int .i64 0 :: .int .i64 0 :: .int .i64 0 :: .int .i64 0 :: .int .i64 0 :: .slice none 0 0 :: .slice none 0 0 :: .slice none 0 0 :: ([] : List Value)).toArray 50) ∧ Ext w wz ∧ AuAt wz w.heap.size zeroAB :=
  ⟨_, rfl, (Below.refl _ _).alloc (Nat.le_refl _) _, heap_alloc_new' w _⟩
set_option maxHeartbeats 8000000 in
theorem key_any {B : Nat} (x : AB) (a : AU) (seed day : Int) (w0 w : World) (h : AbR w B x a) (hv : x.V = .slice none 0 0) (hd : x.D = .slice none 0 0) (hz : x.Z = .slice none 0 0) (hx : Ext w0 w) (hB : B = w0.heap.size) (hn : a.secs.length ≤ 8) (hr : a.roots.length ≤ 8) (hl : a.links.length ≤ 8) (s0 : 0 ≤ seed) (s1 : seed ≤ 100000) (d0 : 0 ≤ day) (d1 : day ≤ 100000) (x0 : 0 ≤ a.next) (x1 : a.next ≤ 1000) (hst : a.st.length ≤ maxLen) (E : KTab w0 0) :
    Calls Tryz.prog 65 #[abV x, .int .i64 seed, .int .i64 day] w fun e w' => Ext w0 w' ∧ ∃ x' : AB, e = .returned (abV x') ∧ AbR w' B x' (keyA a seed day) ∧ x'.li = x.li ∧ x'.V = x.V ∧ x'.D = x.D ∧ x'.Z = x.Z := by
  obtain ⟨st, R, L, S, sg, ls, ssec, lsec, nx, li, V, D, Z⟩ := x
  obtain ⟨ast, anx, roots, links, secs, asg, als, assec, alsec⟩ := a
  obtain ⟨o1, o2, o3, ap, e1, e2, e3, e4, e5, e6⟩ := h
  simp only at e1 e2 e3 e4 e5 e6 o1 o2 o3 ap hn hr hl x0 x1 hst hv hd hz
  subst hv hd hz
  subst e1 e2 e3 e4 e5 e6
  subst hB
  obtain ⟨wa, hwa, ea, TA⟩ := au_alloc w ⟨st, R, L, S, sg, ls, ssec, lsec, nx, li, .slice none 0 0, .slice none 0 0, .slice none 0 0⟩
  obtain ⟨wb, hwb, eb, TB⟩ := au_zero_alloc wa
  dsimp only at hwa
  have has : wa.heap.size = w.heap.size + 1 := by rw [hwa]; simp
  rw [has] at TB
  have hgw : w0.heap.size ≤ w.heap.size := hx.size
  obtain ⟨AL0, nL0, cL0, rfl, -, -⟩ := id o2
  obtain ⟨A3, n3, c3, rfl, hn3, -⟩ := id o3
  rw [intsV_len] at hn3
  obtain rfl : n3 = secs.length := by omega
  clear hn3
  have I1 : KyI w0 w.heap.size wb ⟨st, R, .slice AL0 nL0 cL0, .slice A3 secs.length c3, sg, ls, ssec, lsec, nx, li, .slice none 0 0, .slice none 0 0, .slice none 0 0⟩ roots links secs := ⟨hx.tr (ea.tr eb), hgw, TA.ext eb, TB, (o1.ext ea).ext eb, (o2.ext ea).ext eb, (o3.ext ea).ext eb, ap⟩
  have HR1 := Lib.hid (rowOf_ltK I1.o1)
  have HR2 := Lib.hid (show rowOf (.slice AL0 nL0 cL0) ≠ some wb.heap.size from fun q => Nat.lt_irrefl _ (rowOf_ltK I1.o2 _ q))
  have HR3 := Lib.hid (show rowOf (.slice A3 secs.length c3) ≠ some wb.heap.size from fun q => Nat.lt_irrefl _ (rowOf_ltK I1.o3 _ q))
  have HS3 := Lib.hid (ints_at (w := wb) (B := w0.heap.size) (A := A3) (n := secs.length) (c := c3) (R := secs) I1.o3)
  have HWB := Lib.hid (show w0.heap.size ≤ wb.heap.size ∧ w.heap.size ≠ wb.heap.size ∧ w.heap.size + 1 ≠ wb.heap.size from ⟨I1.ext.size, by have := I1.au.lt; omega, by have := I1.zr.lt; omega⟩)
  have hwbg : wb.heap.size ≠ w.heap.size := by have := I1.au.lt; omega
  have wr1 : IntKind.i64.wrap (seed * 97) = seed * 97 := IntWalk.i64_in _ (by omega)
  have wr2 : IntKind.i64.wrap ((secs.length : Int) * 13) = (secs.length : Int) * 13 := IntWalk.i64_in _ (by omega)
  have wr3 : IntKind.i64.wrap (seed * 97 + (secs.length : Int) * 13) = seed * 97 + (secs.length : Int) * 13 := IntWalk.i64_in _ (by omega)
  have HK := Lib.hid (fun W => secretM_any (seed * 97 + (secs.length : Int) * 13) W (by omega) (by omega))
  have wn1 : IntKind.i64.wrap ((secs.length : Int) + 1) = (secs.length : Int) + 1 := IntWalk.i64_in _ (by omega)
  have wd1 : IntKind.i64.wrap (day + 1825) = day + 1825 := IntWalk.i64_in _ (by omega)
  have wd2 : IntKind.i64.wrap (day + 5475) = day + 5475 := IntWalk.i64_in _ (by omega)
  have wx1 : IntKind.i64.wrap (nx + 1) = nx + 1 := IntWalk.i64_in _ (by omega)
  clear o1 o2 o3 ea eb TA TB hx ap
  have i0 := I1.au.c0
  have i3 := I1.au.c3
  have i8 := I1.au.c28
  have il := I1.au.lt
  unfold abV
  go_enter Tryz.func65, Tryz.ntmps65
  go_wp2_with fail
  rw [← hwa, ← hwb]
  clear hwa hwb
  refine (HK.out _).mono ?_
  rintro e w' ⟨rfl, rfl⟩
  clear HK wr1 wr2 wr3
  have HKK := Lib.hid (show keyK ⟨st, nx, roots, links, secs, sg, ls, ssec, lsec⟩ seed = nearI (seed * 97 + (secs.length : Int) * 13) from rfl)
  generalize nearI (seed * 97 + (secs.length : Int) * 13) = k at *
  obtain ⟨c0, hc0⟩ : ∃ c0 : NC, c0 = ⟨st, 1, nx, (secs.length : Int) + 1, (secs.length : Int) + 1, pw 4 k, day, day + 1825, day + 5475, 0, 0⟩ := ⟨_, rfl⟩
  obtain ⟨wc, hwc, ec, TC⟩ := nc_alloc wb ⟨st, 1, nx, (secs.length : Int) + 1, (secs.length : Int) + 1, pw 4 k, day, day + 1825, day + 5475, 0, 0⟩
  dsimp only [ncO] at hwc
  rw [← hc0] at TC
  have HSC := Lib.hid (show smN c0 by rw [hc0]; exact hst)
  have HC0 := Lib.hid hc0
  clear hc0
  go_upto_region 4 with fail
  rw [← hwc]
  clear hwc i0 i3 i8 il
  have I2 := Lib.hid (I1.step ec)
  clear I1 ec
  obtain ⟨p0, p1, p2, p3, p4, p5, p6, p7, p8, p9, p10⟩ := (TC).cells
  have pf0 := (TC).frozen 0
  have pf1 := (TC).frozen 1
  have pf2 := (TC).frozen 2
  have pf3 := (TC).frozen 3
  have pf4 := (TC).frozen 4
  have pf5 := (TC).frozen 5
  have pf6 := (TC).frozen 6
  have pf7 := (TC).frozen 7
  have pf8 := (TC).frozen 8
  have pf9 := (TC).frozen 9
  have pf10 := (TC).frozen 10
  have pl := (TC).lt
  go_wp2_with fail
  refine (nrefissue_any k c0 _ HSC.out (E.below I2.out.ext)).mono ?_
  rintro e w4 ⟨rfl, b4⟩
  have I4 := Lib.hid (I2.out.step b4)
  have TC4 := TC.ext b4
  clear p0 pf0 p1 pf1 p2 pf2 p3 pf3 p4 pf4 p5 pf5 p6 pf6 p7 pf7 p8 pf8 p9 pf9 p10 pf10 pl
  clear I2 TC b4
  obtain ⟨c1, hc1⟩ : ∃ c1, c1 = isCN k c0 := ⟨_, rfl⟩
  rw [← hc1]
  have HC1 := Lib.hid hc1
  clear hc1
  obtain ⟨w5, hw5, e5, TR⟩ := nc_alloc w4 c1
  unfold ncV
  go_upto_region 5 with fail
  rw [← hw5]
  clear hw5
  have eA : Ext w5 (w5.alloc (.cells (ncCells c1).toArray 39)) := (Below.refl _ _).alloc (Nat.le_refl _) _
  have I5 := Lib.hid (I4.out.step e5)
  have HI := Lib.hid (I5.out.step eA)
  have TCA := Lib.hid ((TC4.ext e5).ext eA)
  have HRK := Lib.hid (ls_one w5 c1)
  unfold ncCells at HI TCA HRK
  clear I4 TC4 e5 eA
  have i1 := I5.out.au.c1
  obtain ⟨p0, p1, p2, p3, p4, p5, p6, p7, p8, p9, p10⟩ := (TR).cells
  have pf0 := (TR).frozen 0
  have pf1 := (TR).frozen 1
  have pf2 := (TR).frozen 2
  have pf3 := (TR).frozen 3
  have pf4 := (TR).frozen 4
  have pf5 := (TR).frozen 5
  have pf6 := (TR).frozen 6
  have pf7 := (TR).frozen 7
  have pf8 := (TR).frozen 8
  have pf9 := (TR).frozen 9
  have pf10 := (TR).frozen 10
  have pl := (TR).lt
  go_upto_region 6 with (refine wpList_appKR (k := 11) (by decide) elemNc (n := roots.length) (m := 1) (B := w0.heap.size) HI.out.o1 (by rw [ncsCells_len]) HRK.out (by rfl) (ncCells_one c1) HI.out.ext (by omega) (by unfold maxLen; omega) HI.out.ext.size rfl rfl rfl rfl ?_; intro A8 n8 c8 w8 hn8 o8 x8 g8 f8; have au8 : AuAt w8 w.heap.size _ := (g8.block _ HI.out.au.lt (fun q => HI.out.r1 q.symm)).trans HI.out.au; have j1 := au8.c1; have jf1 := au8.frozen 1; have jl := au8.lt)
  have o9 : OwnK w8 w0.heap.size 39 11 (.slice A8 n8 c8) (ncsCells roots ++ ncCells c1) := o8
  rw [ncsCells_snoc] at o9
  have I9 := Lib.hid (HI.out.appR o9 x8 g8 f8)
  have hlw5 := TCA.out.lt
  have HR9 := Lib.hid (show rowOf (.slice A8 n8 c8) ≠ some wb.heap.size from fun q => (f8 _ q).elim (fun q2 => Nat.lt_irrefl _ (HR1.out _ q2)) (fun q2 => by omega))
  clear hlw5
  have TC8 : NcAt w8 wb.heap.size c0 := (g8.block _ TCA.out.lt (fun q => Nat.lt_irrefl _ (HR1.out _ q.symm))).trans TCA.out
  have TC9 := TC8.other (b := w.heap.size) (i := 1) (v := .slice A8 n8 c8) hwbg
  clear p0 pf0 p1 pf1 p2 pf2 p3 pf3 p4 pf4 p5 pf5 p6 pf6 p7 pf7 p8 pf8 p9 pf9 p10 pf10 pl
  clear au8 j1 jf1 jl o8 o9 x8 g8 f8 TC8 HI TCA HRK I5 i1 TR
  generalize World.setCell w8 ⟨w.heap.size, 1, none⟩ (.slice A8 n8 c8) = w9 at *
  clear w8
  have i8 := I9.out.au.c28
  have if8 := I9.out.au.frozen 28
  have il := I9.out.au.lt
  go_upto_region 7 with fail
  have I10 := Lib.hid (I9.out.next (nx + 1))
  have TC10 := TC9.other (b := w.heap.size) (i := 28) (v := .int .i64 (nx + 1)) hwbg
  clear i8 if8 il I9 TC9
  generalize World.setCell w9 ⟨w.heap.size, 28, none⟩ (.int .i64 (nx + 1)) = w10 at *
  clear w9
  obtain ⟨LK, hLK⟩ : ∃ LK, LK = (if secs.length = 0 then links else links ++ [linkC ⟨st, nx, roots, links, secs, sg, ls, ssec, lsec⟩ seed day]) := ⟨_, rfl⟩
  obtain ⟨kn, hkn⟩ : ∃ kn, kn = (if secs.length = 0 then nx + 1 else nx + 1 + 1) := ⟨_, rfl⟩
  have HLK := Lib.hid hLK
  have HKN := Lib.hid hkn
  have hkb : 0 ≤ kn ∧ kn ≤ 1002 := by rw [hkn]; split <;> omega
  clear hLK hkn
  go_upto_if 61 with fail
  go_cut [] from 13 to 88 (fun wx => ∃ (AL : Option Addr) (nL cL : Nat), Hid (KyI w0 w.heap.size wx ⟨st, .slice A8 n8 c8, .slice AL nL cL, .slice A3 secs.length c3, sg, ls, ssec, lsec, kn, li, .slice none 0 0, .slice none 0 0, .slice none 0 0⟩ (roots ++ [c1]) LK secs))
  case first =>
    by_cases hz : secs.length = 0
    · have hb : ¬ ((0 : Int) < (secs.length : Int)) := by omega
      have HZ1 := Lib.hid (show kn = nx + 1 by rw [HKN.out, if_pos hz])
      have HZ2 := Lib.hid (show LK = links by rw [HLK.out, if_pos hz])
      clear hz
      go_wp2_with fail
      go_meet
      exact ⟨AL0, nL0, cL0, by rw [HZ1.out, HZ2.out]; exact I10⟩
    · have hb : (0 : Int) < (secs.length : Int) := by omega
      have HZ1 := Lib.hid (show kn = nx + 1 + 1 by rw [HKN.out, if_neg hz])
      have HZ2 := Lib.hid (show LK = links ++ [linkC ⟨st, nx, roots, links, secs, sg, ls, ssec, lsec⟩ seed day] by rw [HLK.out, if_neg hz])
      have HN0 := Lib.hid (show 0 < secs.length by omega)
      clear hz
      have i28 := I10.out.au.c28
      obtain ⟨r0, r1, r2, r3, r4, r5, r6, r7, r8, r9, r10⟩ := TC10.cells
      clear r0 r4 r5 r6 r7 r8 r9 r10
      have rf1 := TC10.frozen 1
      have rf2 := TC10.frozen 2
      have rf3 := TC10.frozen 3
      have rl := TC10.lt
      have il := I10.out.au.lt
      obtain ⟨wc8, hwc8⟩ : ∃ wc8, wc8 = (((w10.setCell ⟨wb.heap.size, 1, none⟩ (.int .i64 2)).setCell ⟨wb.heap.size, 2, none⟩ (.int .i64 (nx + 1))).setCell ⟨wb.heap.size, 3, none⟩ (.int .i64 (secs.length : Int))).drew := ⟨_, rfl⟩
      have hgb := HWB.out.2.1
      have hgb' := hwbg
      go_upto_region 8 with fail
      go_region
      rw [← hwc8]
      have I11 : Hid (KyI w0 w.heap.size wc8 ⟨st, .slice A8 n8 c8, .slice AL0 nL0 cL0, .slice A3 secs.length c3, sg, ls, ssec, lsec, nx + 1, li, .slice none 0 0, .slice none 0 0, .slice none 0 0⟩ (roots ++ [c1]) links secs) := by
        rw [hwc8]
        exact (((I10.out.poke HWB.out.1 HWB.out.2.1 HWB.out.2.2 HR9.out HR2.out HR3.out).poke HWB.out.1 HWB.out.2.1 HWB.out.2.2 HR9.out HR2.out HR3.out).poke HWB.out.1 HWB.out.2.1 HWB.out.2.2 HR9.out HR2.out HR3.out).step (Below.refl _ _).drew
      have TC11 : NcAt wc8 wb.heap.size ⟨c0.st, 2, nx + 1, (secs.length : Int), c0.own, c0.key, c0.fr, c0.un, c0.to, c0.e, c0.s⟩ := by
        rw [hwc8]
        exact (TC10.put123 2 (nx + 1) (secs.length : Int)).ext (Below.refl _ _).drew
      clear hwc8 i28 r1 r2 r3 rf1 rf2 rf3 rl il I10 TC10
      obtain ⟨cl, hcl⟩ : ∃ cl : NC, cl = ⟨c0.st, 2, nx + 1, (secs.length : Int), c0.own, c0.key, c0.fr, c0.un, c0.to, c0.e, c0.s⟩ := ⟨_, rfl⟩
      rw [← hcl] at TC11
      have HSL' := Lib.hid (show smN cl by rw [hcl]; exact HSC.out)
      obtain ⟨ks, hks⟩ : ∃ ks, secs[secs.length - 1]? = some ks := ⟨_, List.getElem?_eq_getElem (by have := HN0.out; omega)⟩
      obtain ⟨b3, o3, rfl, hb3l, hb3⟩ := HS3.out HN0.out
      have HLC := Lib.hid (show isCN ks cl = linkC ⟨st, nx, roots, links, secs, sg, ls, ssec, lsec⟩ seed day by
        have e1 : secs.getD (secs.length - 1) 0 = ks := by rw [List.getD_eq_getElem?_getD, hks]; rfl
        show _ = natC (secs.getD (secs.length - 1) 0) st 2 (nx + 1) (secs.length : Int) ((secs.length : Int) + 1) (pw 4 (keyK _ seed)) day (day + 1825) (day + 5475)
        rw [e1, HKK.out, hcl, HC0.out]
        rfl)
      have HKS := Lib.hid hks
      have HB3 := Lib.hid hb3
      have x3 := I11.out.o3
      have hcs : ∀ W, Ext wc8 W → W.cell? ⟨b3, o3 + (secs.length - 1), none⟩ = some (.int .i64 ks) := fun W e => by
        obtain ⟨b4, o4, q1, q2, q3⟩ := ints_at (x3.ext e) HN0.out
        injection q1 with q1
        injection q1 with q1 q4
        subst q1 q4
        exact q3 _ _ HKS.out
      have HCS := Lib.hid hcs
      clear hcl hks hb3l hb3 HB3 x3 hcs HS3
      have wj : IntKind.i64.wrap ((secs.length : Int) - 1) = (secs.length : Int) - 1 := IntWalk.i64_in _ (by omega)
      have z1 : (0 : Int) ≤ (secs.length : Int) - 1 := by omega
      have z2 : (secs.length : Int) - 1 < (secs.length : Int) := by omega
      have z3 : ((secs.length : Int) - 1).toNat = secs.length - 1 := by omega
      go_upto_region 9 with fail
      refine Gt.wp_region_X (r := RG ncT (fun k => wc8.heap.size ≤ k)) 13 (by kernel_rfl) (by kernel_rfl) ?_
      simp only [List.take_succ_cons, List.take_zero, List.drop_succ_cons, List.drop_zero]
      intro wq hw1
      have LR : ∀ m : (RG ncT (fun k => wc8.heap.size ≤ k)).Lt wq, RgS ncT (fun k => wc8.heap.size ≤ k) wc8 m.1 := fun m => RgS.tr hw1 m.2
      have LB : ∀ m : (RG ncT (fun k => wc8.heap.size ≤ k)).Lt wq, Ext wc8 m.1 := fun m => (LR m).below (fun _ h => h) (Nat.le_refl _)
      have k3 := fun m : (RG ncT (fun k => wc8.heap.size ≤ k)).Lt wq => (I11.out.au.ext (LB m)).c3
      have kS := fun m : (RG ncT (fun k => wc8.heap.size ≤ k)).Lt wq => HCS.out m.1 (LB m)
      have kc0 := fun m : (RG ncT (fun k => wc8.heap.size ≤ k)).Lt wq => (TC11.ext (LB m)).cells.1
      have kc1 := fun m : (RG ncT (fun k => wc8.heap.size ≤ k)).Lt wq => (TC11.ext (LB m)).cells.2.1
      have kc2 := fun m : (RG ncT (fun k => wc8.heap.size ≤ k)).Lt wq => (TC11.ext (LB m)).cells.2.2.1
      have kc3 := fun m : (RG ncT (fun k => wc8.heap.size ≤ k)).Lt wq => (TC11.ext (LB m)).cells.2.2.2.1
      have kc4 := fun m : (RG ncT (fun k => wc8.heap.size ≤ k)).Lt wq => (TC11.ext (LB m)).cells.2.2.2.2.1
      have kc5 := fun m : (RG ncT (fun k => wc8.heap.size ≤ k)).Lt wq => (TC11.ext (LB m)).cells.2.2.2.2.2.1
      have kc6 := fun m : (RG ncT (fun k => wc8.heap.size ≤ k)).Lt wq => (TC11.ext (LB m)).cells.2.2.2.2.2.2.1
      have kc7 := fun m : (RG ncT (fun k => wc8.heap.size ≤ k)).Lt wq => (TC11.ext (LB m)).cells.2.2.2.2.2.2.2.1
      have kc8 := fun m : (RG ncT (fun k => wc8.heap.size ≤ k)).Lt wq => (TC11.ext (LB m)).cells.2.2.2.2.2.2.2.2.1
      have kc9 := fun m : (RG ncT (fun k => wc8.heap.size ≤ k)).Lt wq => (TC11.ext (LB m)).cells.2.2.2.2.2.2.2.2.2.1
      have kc10 := fun m : (RG ncT (fun k => wc8.heap.size ≤ k)).Lt wq => (TC11.ext (LB m)).cells.2.2.2.2.2.2.2.2.2.2
      repeat (refine Gt.wpX_pureP rfl fun K hK => ?_; go_big_quiet_op; refine hK _ ?_; clear hK K)
      refine Gt.wpX_callFn (Gd.gR rfl) (.tuple #[ncV (isCN ks cl), .int .i64 (isKN ks cl)]) (args := [.int .i64 ks, ncV cl]) rfl rfl rfl rfl (by kernel_rfl) rfl rfl (fun m => (nrefissue_any ks cl m.1 HSL'.out (E.below (I11.out.ext.tr (LB m)))).mono fun _ _ ⟨h1, h2⟩ => ⟨h1, h2⟩) ?_
      simp only [Act.put, List.setIfInBounds_toArray, List.set_cons_zero, List.set_cons_succ]
      rw [HLC.out]
      generalize linkC ⟨st, nx, roots, links, secs, sg, ls, ssec, lsec⟩ seed day = lc at *
      repeat (refine Gt.wpX_pureP rfl fun K hK => ?_; go_big_quiet_op; refine hK _ ?_; clear hK K)
      refine Gt.wpX_allocN11 wc8.heap.size (fun m => (LB m).size) (stable_GNcB _ _ _) (Gd.gR rfl) rfl rfl rfl rfl ?_
      simp only [Act.put, List.setIfInBounds_toArray, List.set_cons_zero, List.set_cons_succ]
      refine Gt.wpX_store (Gd.gR rfl) (GNcQ wc8.heap.size lc) (fun f => f 13) (fun _ => ncV lc) rfl rfl rfl rfl rfl (fun _ => rfl) (fun _ => rfl) GNcQ.ext GNcQ.st (fun m f hf => ?_) ?_
      · obtain ⟨g, e9, hg, bg⟩ := hf 13 _ rfl rfl
        rw [e9]
        obtain ⟨w9, q1, q2, q3⟩ := nc_store bg lc
        exact ⟨w9, q1, ⟨nc_ncT, q3 _ hg⟩, g, rfl, hg, q2⟩
      refine Gt.wpX_endG rfl (fun m f hf hqs => ?_)
      have hq : GNcQ wc8.heap.size lc (f 13) m.1 := hqs _ List.mem_cons_self
      obtain ⟨gl, e9, hgl, TL⟩ := hq
      simp only [fillH]
      simp only [Act.put, List.setIfInBounds_toArray, List.set_cons_zero, List.set_cons_succ]
      rw [e9]
      have I12 := Lib.hid (I11.out.step (LB m))
      clear hqs hf e9 k3 kS kc0 kc1 kc2 kc3 kc4 kc5 kc6 kc7 kc8 kc9 kc10 LR LB hw1 HCS wj z1 z2 z3 TC11 I11
      generalize m.1 = wm at *
      clear m wq f
      have eA : Ext wm (wm.alloc (.cells (ncCells lc).toArray 39)) := (Below.refl _ _).alloc (Nat.le_refl _) _
      have HI := Lib.hid (I12.out.step eA)
      have HRK := Lib.hid (ls_one wm lc)
      unfold ncCells at HI HRK
      clear eA
      have hLn := I12.out.o2
      have i2 := I12.out.au.c2
      obtain ⟨p0, p1, p2, p3, p4, p5, p6, p7, p8, p9, p10⟩ := (TL).cells
      have pf0 := (TL).frozen 0
      have pf1 := (TL).frozen 1
      have pf2 := (TL).frozen 2
      have pf3 := (TL).frozen 3
      have pf4 := (TL).frozen 4
      have pf5 := (TL).frozen 5
      have pf6 := (TL).frozen 6
      have pf7 := (TL).frozen 7
      have pf8 := (TL).frozen 8
      have pf9 := (TL).frozen 9
      have pf10 := (TL).frozen 10
      have pl := (TL).lt
      have HNL := Lib.hid (show nL0 = links.length by obtain ⟨A, n, c, e1, e2, -⟩ := hLn; injection e1 with _ e1 _; subst e1; rw [ncsCells_len] at e2; omega)
      obtain rfl := HNL.out
      clear hLn
      go_upto_region 11 with (refine wpList_appKR (k := 11) (by decide) elemNc (n := links.length) (m := 1) (B := w0.heap.size) HI.out.o2 (by rw [ncsCells_len]) HRK.out (by rfl) (ncCells_one lc) HI.out.ext (by omega) (by unfold maxLen; omega) HI.out.ext.size rfl rfl rfl rfl ?_; intro A8' n8' c8' w8 hn8' o8 x8 g8 f8; have au8 : AuAt w8 w.heap.size _ := (g8.block _ HI.out.au.lt (fun q => HI.out.r2 q.symm)).trans HI.out.au; have j1 := au8.c2; have jf1 := au8.frozen 2; have jl := au8.lt)
      have o9 : OwnK w8 w0.heap.size 39 11 (.slice A8' n8' c8') (ncsCells links ++ ncCells lc) := o8
      rw [ncsCells_snoc] at o9
      have I13 := Lib.hid (HI.out.appL o9 x8 g8 f8)
      clear au8 j1 jf1 jl o8 o9 x8 g8 f8 HI HRK I12 i2 TL
      clear p0 pf0 p1 pf1 p2 pf2 p3 pf3 p4 pf4 p5 pf5 p6 pf6 p7 pf7 p8 pf8 p9 pf9 p10 pf10 pl
      generalize World.setCell w8 ⟨w.heap.size, 2, none⟩ (.slice A8' n8' c8') = w9' at *
      clear w8
      have i8 := I13.out.au.c28
      have if8 := I13.out.au.frozen 28
      have il := I13.out.au.lt
      have wx2 : IntKind.i64.wrap (nx + 1 + 1) = nx + 1 + 1 := IntWalk.i64_in _ (by omega)
      go_wp2_with fail
      go_meet
      exact ⟨A8', n8', c8', by rw [HZ1.out, HZ2.out]; exact I13.out.next (nx + 1 + 1)⟩
  case rest =>
  obtain ⟨AL, nL, cL, I11⟩ := hcut
  clear TC10 I10 wx1
  have eA : Ext wc (wc.alloc (.cells #[.int .i64 k] 3)) := (Below.refl _ _).alloc (Nat.le_refl _) _
  have HI := Lib.hid (I11.out.step eA)
  have HRK := Lib.hid (RdK.lit wc 1 #[.int .i64 k] 3 1 rfl (by unfold maxLen; omega))
  clear eA
  have i3 := I11.out.au.c3
  go_upto_region 13 with (refine wpList_appK (k := 1) (by decide) elemI1 (n := secs.length) (m := 1) (B := w0.heap.size) HI.out.o3 (by rw [intsV_len, Nat.mul_one]) HRK.out (by rfl) (fun u hu => by rw [List.mem_singleton.1 hu]; rfl) HI.out.ext (by omega) (by unfold maxLen; omega) HI.out.ext.size rfl rfl rfl rfl ?_; intro A12 n12 c12 w8 hn12 o8 x8 g8; have au8 : AuAt w8 w.heap.size _ := (g8.block _ HI.out.au.lt (fun q => HI.out.r3 q.symm)).trans HI.out.au; have j1 := au8.c3; have jf1 := au8.frozen 3; have jl := au8.lt)
  have o9 : OwnK w8 w0.heap.size 3 1 (.slice A12 n12 c12) (intsV (secs ++ [k])) := by
    have q : OwnK w8 w0.heap.size 3 1 (.slice A12 n12 c12) (intsV secs ++ intsV [k]) := o8
    have e : intsV secs ++ intsV [k] = intsV (secs ++ [k]) := by simp [intsV]
    rw [e] at q
    exact q
  have I12 := Lib.hid (HI.out.appS o9 x8 g8)
  clear au8 j1 jf1 jl o8 o9 x8 g8 HI HRK I11 i3
  generalize World.setCell w8 ⟨w.heap.size, 3, none⟩ (.slice A12 n12 c12) = w12 at *
  clear w8
  have wr1 : IntKind.i64.wrap (seed * 89) = seed * 89 := IntWalk.i64_in _ (by omega)
  have wr2 : IntKind.i64.wrap ((secs.length : Int) * 7) = (secs.length : Int) * 7 := IntWalk.i64_in _ (by omega)
  have wr3 : IntKind.i64.wrap (seed * 89 + (secs.length : Int) * 7) = seed * 89 + (secs.length : Int) * 7 := IntWalk.i64_in _ (by omega)
  have wr4 : IntKind.i64.wrap (seed * 89 + (secs.length : Int) * 7 + 1) = seed * 89 + (secs.length : Int) * 7 + 1 := IntWalk.i64_in _ (by omega)
  go_wp2_with fail
  refine (secretM_any (seed * 89 + (secs.length : Int) * 7 + 1) _ (by omega) (by omega)).mono ?_
  rintro e w' ⟨rfl, rfl⟩
  clear wr1 wr2 wr3 wr4
  have HS := Lib.hid (show keyS ⟨st, nx, roots, links, secs, sg, ls, ssec, lsec⟩ seed = nearI (seed * 89 + (secs.length : Int) * 7 + 1) from rfl)
  generalize nearI (seed * 89 + (secs.length : Int) * 7 + 1) = s at *
  have wk1 : IntKind.i64.wrap (1000 + kn) = 1000 + kn := IntWalk.i64_in _ (by omega)
  have wk2 : IntKind.i64.wrap (kn + 1) = kn + 1 := IntWalk.i64_in _ (by omega)
  have wd3 : IntKind.i64.wrap (day + 90) = day + 90 := IntWalk.i64_in _ (by omega)
  have wd4 : IntKind.i64.wrap (day + 3740) = day + 3740 := IntWalk.i64_in _ (by omega)
  have i0 := I12.out.au.c0
  have i28 := I12.out.au.c28
  have il := I12.out.au.lt
  go_wp2_with fail
  refine (nrefissue_any k ⟨st, 3, kn, (secs.length : Int) + 1, 1000 + kn, pw 4 s, day, day + 90, day + 3740, 0, 0⟩ _ hst (E.below I12.out.ext)).mono ?_
  rintro e w13 ⟨rfl, b13⟩
  obtain ⟨c2, hc2⟩ : ∃ c2, c2 = isCN k ⟨st, 3, kn, (secs.length : Int) + 1, 1000 + kn, pw 4 s, day, day + 90, day + 3740, 0, 0⟩ := ⟨_, rfl⟩
  rw [← hc2]
  have HC2 := Lib.hid hc2
  clear hc2
  have I13 := Lib.hid (I12.out.step b13)
  clear i0 i28  il I12 b13 wd3 wd4
  obtain ⟨w14, hw14⟩ : ∃ w14, w14 = set_sg w13 w.heap.size c2 := ⟨_, rfl⟩
  have I14 := Lib.hid (I13.out.sg c2)
  rw [← hw14] at I14
  unfold set_sg at hw14
  have i4 := I13.out.au.c4
  have i5 := I13.out.au.c5
  have i6 := I13.out.au.c6
  have i7 := I13.out.au.c7
  have i8 := I13.out.au.c8
  have i9 := I13.out.au.c9
  have i10 := I13.out.au.c10
  have i11 := I13.out.au.c11
  have i12 := I13.out.au.c12
  have i13 := I13.out.au.c13
  have i14 := I13.out.au.c14
  have if4 := I13.out.au.frozen 4
  have if5 := I13.out.au.frozen 5
  have if6 := I13.out.au.frozen 6
  have if7 := I13.out.au.frozen 7
  have if8 := I13.out.au.frozen 8
  have if9 := I13.out.au.frozen 9
  have if10 := I13.out.au.frozen 10
  have if11 := I13.out.au.frozen 11
  have if12 := I13.out.au.frozen 12
  have if13 := I13.out.au.frozen 13
  have if14 := I13.out.au.frozen 14
  have il := I13.out.au.lt
  unfold ncV
  go_upto_region 15 with fail
  rw [← hw14]
  clear hw14 i4 i5 i6 i7 i8 i9 i10 i11 i12 i13 i14 if4 if5 if6 if7 if8 if9 if10 if11 if12 if13 if14 il I13
  have i26 := I14.out.au.c26
  have if26 := I14.out.au.frozen 26
  have il := I14.out.au.lt
  go_upto_region 16 with fail
  have I15 := Lib.hid (I14.out.ssec s)
  clear i26 if26 il I14
  generalize World.setCell w14 ⟨w.heap.size, 26, none⟩ (.int .i64 s) = w15 at *
  clear w14
  have i28 := I15.out.au.c28
  have if28 := I15.out.au.frozen 28
  have il := I15.out.au.lt
  go_upto_region 17 with fail
  have I16 := Lib.hid (I15.out.next (kn + 1))
  clear i28 if28 il I15
  generalize World.setCell w15 ⟨w.heap.size, 28, none⟩ (.int .i64 (kn + 1)) = w16 at *
  clear w15
  have wr1 : IntKind.i64.wrap (seed * 83) = seed * 83 := IntWalk.i64_in _ (by omega)
  have wr2 : IntKind.i64.wrap ((secs.length : Int) * 5) = (secs.length : Int) * 5 := IntWalk.i64_in _ (by omega)
  have wr3 : IntKind.i64.wrap (seed * 83 + (secs.length : Int) * 5) = seed * 83 + (secs.length : Int) * 5 := IntWalk.i64_in _ (by omega)
  have wr4 : IntKind.i64.wrap (seed * 83 + (secs.length : Int) * 5 + 2) = seed * 83 + (secs.length : Int) * 5 + 2 := IntWalk.i64_in _ (by omega)
  go_wp2_with fail
  refine (secretM_any (seed * 83 + (secs.length : Int) * 5 + 2) _ (by omega) (by omega)).mono ?_
  rintro e w' ⟨rfl, rfl⟩
  clear wr1 wr2 wr3 wr4 wk1 wk2
  have HSL := Lib.hid (show keyL ⟨st, nx, roots, links, secs, sg, ls, ssec, lsec⟩ seed = nearI (seed * 83 + (secs.length : Int) * 5 + 2) from rfl)
  generalize nearI (seed * 83 + (secs.length : Int) * 5 + 2) = l at *
  have wk1 : IntKind.i64.wrap (1000 + (kn + 1)) = 1000 + (kn + 1) := IntWalk.i64_in _ (by omega)
  have wk2 : IntKind.i64.wrap (kn + 1 + 1) = kn + 1 + 1 := IntWalk.i64_in _ (by omega)
  have wd3 : IntKind.i64.wrap (day + 365) = day + 365 := IntWalk.i64_in _ (by omega)
  have wd4 : IntKind.i64.wrap (day + 730) = day + 730 := IntWalk.i64_in _ (by omega)
  have i0 := I16.out.au.c0
  have i28 := I16.out.au.c28
  have il := I16.out.au.lt
  go_wp2_with fail
  refine (nrefissue_any k ⟨st, 4, kn + 1, (secs.length : Int) + 1, 1000 + (kn + 1), pw 4 l, day, day + 365, day + 730, 0, 0⟩ _ hst (E.below I16.out.ext)).mono ?_
  rintro e w17 ⟨rfl, b17⟩
  obtain ⟨c3l, hc3⟩ : ∃ c3l, c3l = isCN k ⟨st, 4, kn + 1, (secs.length : Int) + 1, 1000 + (kn + 1), pw 4 l, day, day + 365, day + 730, 0, 0⟩ := ⟨_, rfl⟩
  rw [← hc3]
  have HC3 := Lib.hid hc3
  clear hc3
  have I17 := Lib.hid (I16.out.step b17)
  clear i0 i28  il I16 b17 wd3 wd4
  obtain ⟨w18, hw18⟩ : ∃ w18, w18 = set_ls w17 w.heap.size c3l := ⟨_, rfl⟩
  have I18 := Lib.hid (I17.out.ls c3l)
  rw [← hw18] at I18
  unfold set_ls at hw18
  have i15 := I17.out.au.c15
  have i16 := I17.out.au.c16
  have i17 := I17.out.au.c17
  have i18 := I17.out.au.c18
  have i19 := I17.out.au.c19
  have i20 := I17.out.au.c20
  have i21 := I17.out.au.c21
  have i22 := I17.out.au.c22
  have i23 := I17.out.au.c23
  have i24 := I17.out.au.c24
  have i25 := I17.out.au.c25
  have if15 := I17.out.au.frozen 15
  have if16 := I17.out.au.frozen 16
  have if17 := I17.out.au.frozen 17
  have if18 := I17.out.au.frozen 18
  have if19 := I17.out.au.frozen 19
  have if20 := I17.out.au.frozen 20
  have if21 := I17.out.au.frozen 21
  have if22 := I17.out.au.frozen 22
  have if23 := I17.out.au.frozen 23
  have if24 := I17.out.au.frozen 24
  have if25 := I17.out.au.frozen 25
  have il := I17.out.au.lt
  unfold ncV
  go_upto_region 19 with fail
  rw [← hw18]
  clear hw18 i15 i16 i17 i18 i19 i20 i21 i22 i23 i24 i25 if15 if16 if17 if18 if19 if20 if21 if22 if23 if24 if25 il I17
  have i27 := I18.out.au.c27
  have if27 := I18.out.au.frozen 27
  have il := I18.out.au.lt
  go_upto_region 20 with fail
  have I19 := Lib.hid (I18.out.lsec l)
  clear i27 if27 il I18
  generalize World.setCell w18 ⟨w.heap.size, 27, none⟩ (.int .i64 l) = w19 at *
  clear w18
  have i28 := I19.out.au.c28
  have if28 := I19.out.au.frozen 28
  have il := I19.out.au.lt
  go_upto_region 21 with fail
  have I20 := Lib.hid (I19.out.next (kn + 1 + 1))
  clear i28 if28 il I19
  generalize World.setCell w19 ⟨w.heap.size, 28, none⟩ (.int .i64 (kn + 1 + 1)) = w20 at *
  clear w19
  have HX := Lib.hid I20.out.finR
  have HR0 := I20.out.au.row
  have HZ0 := I20.out.zr.row
  have H1 := Lib.hid (abRow_one (x := ⟨st, .slice A8 n8 c8, .slice AL nL cL, .slice A12 n12 c12, c2, c3l, s, l, kn + 1 + 1, li, .slice none 0 0, .slice none 0 0, .slice none 0 0⟩) ⟨rfl, rfl, rfl, rfl, rfl, rfl⟩)
  have HAP := Lib.hid I20.out.ap
  have HKAE := Lib.hid (show keyA ⟨st, nx, roots, links, secs, sg, ls, ssec, lsec⟩ seed day = ⟨st, kn + 1 + 1, roots ++ [c1], LK, secs ++ [k], c2, c3l, s, l⟩ by
    have eN : keyN ⟨st, nx, roots, links, secs, sg, ls, ssec, lsec⟩ = kn := HKN.out.symm
    have e1 : rootC ⟨st, nx, roots, links, secs, sg, ls, ssec, lsec⟩ seed day = c1 := by rw [HC1.out, HC0.out]; unfold rootC; rw [HKK.out]; rfl
    have e2 : signC ⟨st, nx, roots, links, secs, sg, ls, ssec, lsec⟩ seed day = c2 := by rw [HC2.out]; unfold signC; rw [HKK.out, HS.out, eN]; rfl
    have e3 : listC ⟨st, nx, roots, links, secs, sg, ls, ssec, lsec⟩ seed day = c3l := by rw [HC3.out]; unfold listC; rw [HKK.out, HSL.out, eN]; rfl
    have e4 : LK = (if secs.length = 0 then links else links ++ [linkC ⟨st, nx, roots, links, secs, sg, ls, ssec, lsec⟩ seed day]) := HLK.out
    unfold keyA
    rw [eN, e1, e2, e3, HKK.out, HS.out, HSL.out, e4])
  generalize hx20 : (⟨st, .slice A8 n8 c8, .slice AL nL cL, .slice A12 n12 c12, c2, c3l, s, l, kn + 1 + 1, li, .slice none 0 0, .slice none 0 0, .slice none 0 0⟩ : AB) = x20 at *
  generalize hr20 : abRow x20 = row20 at *
  generalize hz20 : abRow zeroAB = rowz at *
  have HS20 := Lib.hid (show some 33 = some row20.size by rw [← hr20]; rfl)
  have HSZ := Lib.hid (show rowz.size = row20.size by rw [← hr20, ← hz20]; rfl)
  have HR0 := Lib.hid HR0
  have HZ0 := Lib.hid HZ0
  have HX20 := Lib.hid hx20
  have HRW := Lib.hid hr20
  clear hx20 hr20 hz20 I20
  go_wp2_with (first | (refine wpList_load_row rfl 50 _ rfl w.heap.size rfl 50 row20 (0, 0) _ HR0.out Tryz.underlying50 rfl (info_au.trans HS20.out) ?_) | (refine wpRow_store rfl 50 _ _ rfl rfl (w.heap.size + 1) row20 rfl rfl 50 rowz HZ0.out (info_au.trans HS20.out) HSZ.out H1.out ?_))
  refine bodyPost_ret (v := .agg row20) ?_ rfl ⟨HX.out.1, x20, ?_, ?_, ?_⟩
  · exact results_cell_row rfl _ _ (w.heap.size + 1) 50 row20 (0, 0) _ rfl (row_at HZ0.out) Tryz.underlying50 rfl (info_au.trans HS20.out)
  · rw [← HRW.out]; rfl
  · rw [HKAE.out]
    obtain ⟨y1, y2, y3, y4, y5⟩ := HX.out
    obtain rfl := HX20.out
    exact ⟨y3, y4, y5, HAP.out, rfl, rfl, rfl, rfl, rfl, rfl⟩
  · obtain rfl := HX20.out
    exact ⟨rfl, rfl, rfl, rfl⟩
end Go.Proofs.YtmmoenkmicimcaaGreatDoor
namespace Go.Proofs.YtmmoenkmicimcaaGreatDoor
open Go.RowKit
set_option linter.unusedVariables false
set_option maxRecDepth 100000
/-- The day of an authority's key. -/
def dayN (L : List Int) : Nat → Int
  | 0 => 40000
  | j + 1 => dayN L j + 10 + dv (L.drop j) 9
def dsN (L : List Int) (j : Nat) : List Int := (List.range j).map (dayN L)
theorem dsN_succ (L : List Int) (j : Nat) : dsN L (j + 1) = dsN L j ++ [dayN L j] := by simp [dsN, List.range_succ]
theorem dsN_len (L : List Int) (j : Nat) : (dsN L j).length = j := by simp [dsN]
theorem dayN_bd (L : List Int) : ∀ j : Nat, 40000 ≤ dayN L j ∧ dayN L j ≤ 40000 + 18 * (j : Int)
  | 0 => ⟨by show (40000 : Int) ≤ 40000; omega, by show (40000 : Int) ≤ 40000 + 18 * 0; omega⟩
  | j + 1 => by
    have h := dayN_bd L j
    have k := dv_bd (L.drop j) (n := 9) (by omega)
    show 40000 ≤ dayN L j + 10 + dv (L.drop j) 9 ∧ dayN L j + 10 + dv (L.drop j) 9 ≤ 40000 + 18 * ((j + 1 : Nat) : Int)
    omega
/-- The number of an authority's keys, and their days. -/
def cntA (l : List Int) : Nat := (dv l.tail.tail 4).toNat + 1
def daysA (l : List Int) : List Int := dsN l.tail.tail.tail (cntA l)
/-- Where Authority stands. -/
structure AyI (w : World) (B D b g : Nat) (st : List UInt8) (M : List Int) (j : Nat) (wr : World) (x : AB) (a : AU) : Prop where
  ext : Ext w wr
  dice : DiceAt wr D b (M.drop j)
  rz : AuAt wr w.heap.size zeroAB
  au : AuAt wr g x
  ar : AbR wr B x a
  ai : AuI a (dsN M j)
  st : a.st = st
  li : x.li = 1
  V : x.V = .slice none 0 0
  D' : x.D = .slice none 0 0
  Z : x.Z = .slice none 0 0
  size : B ≤ wr.heap.size
/-- Where its blocks lie. -/
structure AyB (w : World) (B D b g : Nat) : Prop where
  rB : w.heap.size < B
  D1 : w.heap.size < D
  D2 : D < B
  b1 : w.heap.size < b
  b2 : b < B
  g1 : w.heap.size < g
  g2 : g < B
  Dg : D ≠ g
  bg : b ≠ g
theorem AbR.mono {w : World} {B B' : Nat} {x : AB} {a : AU} (h : AbR w B x a) (hB : B' ≤ B) : AbR w B' x a := ⟨h.o1.mono hB, h.o2.mono hB, h.o3.mono hB, h.ap, h.st, h.sg, h.ls, h.ssec, h.lsec, h.next⟩
theorem AbR.setRow {w : World} {B g : Nat} {x : AB} {a : AU} {cs : Array Value} {y : AB} (h : AbR w B x a) (hg : AuAt w g y) : AbR (w.setRow g cs) B x a := ⟨h.o1.setR (h.o1.row_blk hg tn_ta), h.o2.setR (h.o2.row_blk hg tn_ta), h.o3.setR (h.o3.row_blk hg ti_ta), h.ap, h.st, h.sg, h.ls, h.ssec, h.lsec, h.next⟩
theorem AbR.gb {w w' : World} {B D : Nat} {x : AB} {a : AU} (h : AbR w B x a) (hD : D < B) (e : Gb D w w') : AbR w' B x a :=
  have k : ∀ {e' k : Nat} {v : Value} {xs : List Value}, OwnK w B e' k v xs → OwnK w' B e' k v xs := fun h => h.grown e (.inr fun q => by have := rowOf_geK h _ q; omega)
  ⟨k h.o1, k h.o2, k h.o3, h.ap, h.st, h.sg, h.ls, h.ssec, h.lsec, h.next⟩
def aB0 (st : List UInt8) : AB := ⟨st, .slice none 0 0, .slice none 0 0, .slice none 0 0, zeroN, zeroN, 0, 0, 1, 1, .slice none 0 0, .slice none 0 0, .slice none 0 0⟩
theorem abR0 (w : World) (B : Nat) (st : List UInt8) : AbR w B (aB0 st) (zeroA st) :=
  ⟨OwnK.empty _ _ _ _ _, OwnK.empty _ _ _ _ _, OwnK.empty _ _ _ _ _, fun r h => by simp [aB0, rowOf] at h, rfl, rfl, rfl, rfl, rfl, rfl⟩
/-- What Authority returns. -/
def AutR (w : World) (l : List Int) (e : Ending) (w' : World) : Prop := Ext w w' ∧ ∃ (x : AB) (a : AU), e = .returned (abV x) ∧ AbR w' w.heap.size x a ∧ AuI a (daysA l) ∧ a.st = stateN (dv l 4) ∧ x.li = 1 ∧ x.V = .slice none 0 0 ∧ x.D = .slice none 0 0 ∧ x.Z = .slice none 0 0
theorem au_zero2 (w : World) : ∃ wz, wz = w.alloc (.cells (.string ⟨#[]⟩ :: .slice none 0 0 :: .slice none 0 0 :: .slice none 0 0 :: .string ⟨#[]⟩ :: .int .i64 0 :: .int .i64 0 :: .int .i64 0 :: .int .i64 0 :: .int .i64 0 :: .int .i64 0 :: .int .i64 0 :: .int .i64 0 :: .int .i64 0 :: .int .i64 0 :: .string ⟨#[]⟩ :: .int .i64 0 :: .int .i64 0 :: .int .i64 0 :: .int .i64 0 :: .int .i64 0 :: .int .i64 0 :: .int .i64 0 :: .int .i64 0 :: .int .i64 0 :: .int .i64 0 :: .int .i64 0 :: .int .i64 0 :: .int .i64 0 :: .int .i64 0 :: .slice none 0 0 :: .slice none 0 0 :: .slice none 0 0 :: ([] : List Value)).toArray 50) ∧ Ext w wz ∧ AuAt wz w.heap.size zeroAB :=
  ⟨_, rfl, (Below.refl _ _).alloc (Nat.le_refl _) _, heap_alloc_new' w _⟩
set_option maxHeartbeats 8000000 in
theorem authority_any {v : Value} {l : List Int} (w : World) (h : RdI w .i64 v l) (hw : ∀ x ∈ l, wf64 x) (hl : l.length ≤ 1000) (E : KTab w 0) :
    Calls Tryz.prog 25 #[v] w (AutR w l) := by
  obtain ⟨wz, hwz, z0, zr⟩ := au_zero2 w
  have hzs : wz.heap.size = w.heap.size + 1 := by rw [hwz]; simp
  go_enter Tryz.func25, Tryz.ntmps25
  go_wp2_with fail
  rw [← hwz]
  clear hwz
  refine (roll_any wz (h.ext z0) hw hl).mono ?_
  rintro e w1 ⟨D, b, rfl, hD, hb, hd, b1⟩
  have hD' : w.heap.size < D := by omega
  have hb' : w.heap.size < b := by omega
  have x1 := z0.tr b1
  have zr1 := zr.ext b1
  clear hzs h hw hl z0 zr b1
  go_wp2_with fail
  refine (next_any 4 w1 hd (by omega)).mono ?_
  rintro e w2 ⟨rfl, g2, d2, s2⟩
  have x2 : Ext w w2 := Gb.below x1 g2 (by omega)
  have zr2 : AuAt w2 w.heap.size zeroAB := (g2.block _ zr1.lt (fun q => by injection q with q; omega)).trans zr1
  have hz4 := dv_bd l (n := 4) (by omega)
  clear hd g2 x1 zr1
  go_wp2_with fail
  refine (stateX_any (dv l 4) w2 ⟨by omega, by omega⟩).mono ?_
  rintro e w3 ⟨rfl, b3⟩
  have x3 := x2.tr b3
  have zr3 := zr2.ext b3
  have d3 := d2.ext b3
  have hst := stateN_sm (dv l 4)
  have hso := stateN_ok (dv l 4)
  have HST := Lib.hid (show stateN (dv l 4) = stateN (dv l 4) from rfl)
  generalize hsb : stateN (dv l 4) = sb at hst hso ⊢
  have HSB := Lib.hid hsb
  clear hsb HST hz4 b3 d2 zr2 x2 s2
  obtain ⟨wc, hwc, ec, TC⟩ : ∃ wc, wc = (w3.alloc (.cells (.string ⟨#[]⟩ :: .slice none 0 0 :: .slice none 0 0 :: .slice none 0 0 :: .string ⟨#[]⟩ :: .int .i64 0 :: .int .i64 0 :: .int .i64 0 :: .int .i64 0 :: .int .i64 0 :: .int .i64 0 :: .int .i64 0 :: .int .i64 0 :: .int .i64 0 :: .int .i64 0 :: .string ⟨#[]⟩ :: .int .i64 0 :: .int .i64 0 :: .int .i64 0 :: .int .i64 0 :: .int .i64 0 :: .int .i64 0 :: .int .i64 0 :: .int .i64 0 :: .int .i64 0 :: .int .i64 0 :: .int .i64 0 :: .int .i64 0 :: .int .i64 0 :: .int .i64 0 :: .slice none 0 0 :: .slice none 0 0 :: .slice none 0 0 :: ([] : List Value)).toArray 50)).setRow w3.heap.size (abRow (aB0 sb)) ∧ Ext w3 wc ∧ AuAt wc w3.heap.size (aB0 sb) :=
    ⟨_, rfl, ext_setRow ((Below.refl _ _).alloc (Nat.le_refl _) _) (Nat.le_refl _) _, row_at (heap_alloc_new' w3 _)⟩
  have HALL := Lib.hid (heap_alloc_new' w3 (.cells (abRow zeroAB) 50))
  go_wp2_with (refine wpRow_store rfl 50 _ _ rfl rfl w3.heap.size (abRow (aB0 sb)) rfl rfl 50 (abRow zeroAB) HALL.out info_au rfl (abRow_one ⟨rfl, rfl, rfl, rfl, rfl, rfl⟩) ?_)
  rw [← hwc]
  have sc : wc.heap.size = w3.heap.size + 1 := by rw [hwc]; simp
  have hDl := d3.lt
  have hbl := d3.ltb
  have hrl := zr3.lt
  have BB := Lib.hid (show AyB w wc.heap.size D b w3.heap.size from ⟨by omega, hD', by omega, hb', by omega, by omega, by omega, by omega, by omega⟩)
  have dc := d3.ext ec
  have xc := x3.tr ec
  have rc := zr3.ext ec
  clear hwc sc hDl hbl hrl ec d3 x3 zr3 HALL hD hb
  generalize w3.heap.size = g at *
  generalize hBg : wc.heap.size = B at *
  go_wp2_with fail
  refine (next_any 200 wc dc (by omega)).mono ?_
  rintro e w4 ⟨rfl, g4, d4, s4⟩
  have x4 : Ext w w4 := Gb.below xc g4 (by have := BB.out.D1; omega)
  have r4 : AuAt w4 w.heap.size zeroAB := (g4.block _ rc.lt (fun q => by injection q with q; have := BB.out.D1; omega)).trans rc
  have t4 : AuAt w4 g (aB0 sb) := (g4.block _ TC.lt (fun q => by injection q with q; exact BB.out.Dg q.symm)).trans TC
  have hzn := dv_bd l.tail (n := 200) (by omega)
  generalize dv l.tail 200 = zn at *
  clear dc xc rc TC g4
  have wn1 : IntKind.i64.wrap (10 * zn) = 10 * zn := IntWalk.i64_in _ (by omega)
  have wn2 : IntKind.i64.wrap (1 + 10 * zn) = 1 + 10 * zn := IntWalk.i64_in _ (by omega)
  go_wp2_with fail
  refine (next_any 4 w4 d4 (by omega)).mono ?_
  rintro e w5 ⟨rfl, g5, d5, s5⟩
  have x5 : Ext w w5 := Gb.below x4 g5 (by have := BB.out.D1; omega)
  have r5 : AuAt w5 w.heap.size zeroAB := (g5.block _ r4.lt (fun q => by injection q with q; have := BB.out.D1; omega)).trans r4
  have t5 : AuAt w5 g (aB0 sb) := (g5.block _ t4.lt (fun q => by injection q with q; exact BB.out.Dg q.symm)).trans t4
  have hcn := dv_bd l.tail.tail (n := 4) (by omega)
  have HCN := Lib.hid (show cntA l = (dv l.tail.tail 4).toNat + 1 from rfl)
  have HDS := Lib.hid (show daysA l = dsN l.tail.tail.tail (cntA l) from rfl)
  generalize dv l.tail.tail 4 = zc at *
  have HM := Lib.hid (show l.tail.tail.tail = l.tail.tail.tail from rfl)
  generalize l.tail.tail.tail = M at *
  generalize cntA l = cnt at *
  have HCI := Lib.hid (show (cnt : Int) = zc + 1 by have := HCN.out; omega)
  have hcb : 1 ≤ cnt ∧ cnt ≤ 4 := by have := HCN.out; omega
  have A0 : AyI w B D b g sb M 0 w5 (aB0 sb) (zeroA sb) := ⟨x5, d5, r5, t5, abR0 _ _ _, auI_zero hso, rfl, rfl, rfl, rfl, rfl, by omega⟩
  have HA0 := Lib.hid A0
  clear A0 x4 r4 t4 d4 g5 x5 r5 t5 d5 s4 s5 wn1 HM
  obtain ⟨n, hn⟩ : ∃ n, n = 1 + 10 * zn := ⟨_, rfl⟩
  rw [← hn]
  have hnb : 0 ≤ n ∧ n ≤ 100000 := by omega
  clear hn hzn wn2 hBg
  go_wp2_with fail
  go_loopw [6, 7] (fun s6 s7 wr => ∃ (j : Nat) (x : AB) (a : AU), j ≤ cnt ∧ s6 = .int .i64 (dayN M j) ∧ s7 = .int .i64 (zc - (j : Int)) ∧ Hid (AyI w B D b g sb M j wr x a)) (fun _ i _ => ((intOf i) + 1).toNat)
  case atStart => exact ⟨0, _, _, by omega, rfl, by simp, HA0⟩
  case round =>
    obtain ⟨j, x, a, hj, rfl, rfl, HA⟩ := hrel
    have hcI := HCI.out
    by_cases hlt : j < cnt
    case neg =>
      obtain rfl : j = cnt := by omega
      have HR := Lib.hid HA.out.au.row
      have HZ := Lib.hid HA.out.rz.row
      have H1 := Lib.hid (abRow_one (x := x) ⟨HA.out.ar.o1.one, HA.out.ar.o2.one, HA.out.ar.o3.one, by rw [HA.out.V]; rfl, by rw [HA.out.D']; rfl, by rw [HA.out.Z]; rfl⟩)
      have ht : zc - (j : Int) < 0 := by omega
      clear hcI hcb hj hlt
      go_wp2_with (first | (refine wpList_load_row rfl 50 _ rfl g rfl 50 (abRow x) (0, 0) _ HR.out Tryz.underlying50 rfl info_au ?_) | (refine wpRow_store rfl 50 _ _ rfl rfl w.heap.size (abRow x) rfl rfl 50 (abRow zeroAB) HZ.out info_au rfl H1.out ?_))
      refine bodyPost_ret (v := .agg (abRow x)) ?_ rfl ⟨ext_setRow HA.out.ext (Nat.le_refl _) _, x, a, rfl, (HA.out.ar.setRow HA.out.rz).mono (by have := BB.out.rB; omega), by rw [HDS.out]; exact HA.out.ai, by rw [HA.out.st, HSB.out], HA.out.li, HA.out.V, HA.out.D', HA.out.Z⟩
      exact results_cell_row rfl _ _ w.heap.size 50 (abRow x) (0, 0) _ rfl (row_at HZ.out) Tryz.underlying50 rfl info_au
    case pos =>
    have ht : ¬ (zc - (j : Int) < 0) := by omega
    have hdb := dayN_bd M j
    obtain ⟨w0, hw0, e0, f0⟩ := cut_world HA.out.ext (by have := BB.out.rB; omega) HA.out.size
    have HK := Lib.hid (key_any x a n (dayN M j) w0 wr HA.out.ar HA.out.V HA.out.D' HA.out.Z e0 hw0.symm (by rw [HA.out.ai.len, dsN_len]; omega) (by rw [HA.out.ai.rlen, dsN_len]; omega) (by rw [HA.out.ai.llen, dsN_len]; omega) hnb.1 hnb.2 (by omega) (by omega) (by have := HA.out.ai.next; omega) (by have := HA.out.ai.next; rw [dsN_len] at this; omega) (by rw [HA.out.st]; exact hst) (E.below f0))
    have HR := Lib.hid HA.out.au.row
    go_wp2_with (refine wpList_load_row rfl 50 _ rfl g rfl 50 (abRow x) (0, 0) _ HR.out Tryz.underlying50 rfl info_au ?_)
    refine HK.out.mono ?_
    rintro e w6 ⟨b6, x', rfl, ar6, li6, V6, D6, Z6⟩
    have kb : ∀ k, k < B → w6.heap[k]? = wr.heap[k]? := fun k hk => (b6.block k (by omega)).trans (e0.block k (by omega)).symm
    have t6 : AuAt w6 g x := (kb g BB.out.g2).trans HA.out.au
    have r6 : AuAt w6 w.heap.size zeroAB := (kb _ BB.out.rB).trans HA.out.rz
    have d6 : DiceAt w6 D b (M.drop j) := HA.out.dice.keep (kb D BB.out.D2) (kb b BB.out.b2)
    have x6 : Ext w w6 := f0.tr b6
    have z6 : B ≤ w6.heap.size := by have := b6.size; omega
    have V6' := V6.trans HA.out.V
    have D6' := D6.trans HA.out.D'
    have Z6' := Z6.trans HA.out.Z
    have li6' := li6.trans HA.out.li
    have st6 : (keyA a n (dayN M j)).st = sb := HA.out.st
    have ai6 : AuI (keyA a n (dayN M j)) (dsN M (j + 1)) := by rw [dsN_succ]; exact auI_key HA.out.ai n (by omega) (by omega) (by rw [dsN_len]; omega)
    have H1 := Lib.hid (abRow_one (x := x') ⟨ar6.o1.one, ar6.o2.one, ar6.o3.one, by rw [V6']; rfl, by rw [D6']; rfl, by rw [Z6']; rfl⟩)
    have HT6 := Lib.hid t6.row
    obtain ⟨w7, hw7⟩ : ∃ w7, w7 = w6.setRow g (abRow x') := ⟨_, rfl⟩
    have t7 : AuAt w7 g x' := by rw [hw7]; exact t6.setRow x'
    have r7 : AuAt w7 w.heap.size zeroAB := by rw [hw7]; exact (setRow_block (by have := BB.out.g1; omega)).trans r6
    have d7 : DiceAt w7 D b (M.drop j) := by rw [hw7]; exact d6.keep (setRow_block BB.out.Dg) (setRow_block BB.out.bg)
    have x7 : Ext w w7 := by rw [hw7]; exact ext_setRow x6 (by have := BB.out.g1; omega) _
    have ar7 : AbR w7 B x' (keyA a n (dayN M j)) := by rw [hw7]; exact ar6.setRow t6
    have z7 : B ≤ w7.heap.size := by rw [hw7]; simpa using z6
    clear kb t6 r6 d6 x6 z6 ar6 b6 e0 f0 hw0 HK HA HR V6 D6 Z6 li6
    generalize keyA a n (dayN M j) = a' at *
    clear a
    go_wp2_with (refine wpRow_store rfl 50 _ _ rfl rfl g (abRow x') rfl rfl 50 (abRow x) HT6.out info_au rfl H1.out ?_)
    rw [← hw7]
    clear hw7 HT6 H1
    refine (next_any 9 w7 d7 (by omega)).mono ?_
    rintro e w8 ⟨rfl, g8, d8, s8⟩
    have x8 : Ext w w8 := Gb.below x7 g8 (by have := BB.out.D1; omega)
    have r8 : AuAt w8 w.heap.size zeroAB := (g8.block _ r7.lt (fun q => by injection q with q; have := BB.out.D1; omega)).trans r7
    have t8 : AuAt w8 g x' := (g8.block _ t7.lt (fun q => by injection q with q; exact BB.out.Dg q.symm)).trans t7
    have A8 : AyI w B D b g sb M (j + 1) w8 x' a' := ⟨x8, by rw [List.tail_drop] at d8; exact d8, r8, t8, ar7.gb BB.out.D2 g8, ai6, st6, li6', V6', D6', Z6', by omega⟩
    have HA8 := Lib.hid A8
    have hd9 := dv_bd (M.drop j) (n := 9) (by omega)
    have HDN := Lib.hid (show dayN M (j + 1) = dayN M j + 10 + dv (M.drop j) 9 from rfl)
    generalize dv (M.drop j) 9 = z9 at *
    have wd1 : IntKind.i64.wrap (dayN M j + 10) = dayN M j + 10 := IntWalk.i64_in _ (by omega)
    have wd2 : IntKind.i64.wrap (dayN M j + 10 + z9) = dayN M j + 10 + z9 := IntWalk.i64_in _ (by omega)
    have wd3 : IntKind.i64.wrap (zc - (j : Int) - 1) = zc - (j : Int) - 1 := IntWalk.i64_in _ (by omega)
    clear A8 x8 r8 t8 g8 d8 x7 r7 t7 d7 ar7 z7 V6' D6' Z6' li6' st6 ai6 s8
    go_wp2_with fail
    go_roundw
    case rel => exact ⟨j + 1, x', a', by omega, by rw [HDN.out], by go_num, HA8⟩
    case measure => simp only [intOf]; omega
end Go.Proofs.YtmmoenkmicimcaaGreatDoor
