/- Parts Nr Ns of the proof. -/
import Derived.Test.YteilglpdmfiinaaGreatDoorPkq
import Derived.Test.YteilglpdmfiinaaGreatDoorPko
import Derived.Deep.CutRange
import Derived.Deep.RegionWith
import Derived.Test.YteilglpdmfiinaaGreatDoorEv
namespace Go.Proofs.YteilglpdmfiinaaGreatDoor
open Go.RowKit
set_option linter.unusedVariables false
set_option maxRecDepth 100000

def StR (w : World) (e : Ending) (w' : World) : Prop := Ext w w' ∧ ∃ l : List UInt8, stateP l ∧ e = .returned (.string (bstr l))
theorem StR.mk {w w' : World} (l : List UInt8) (s : ByteArray) (hs : s = bstr l) (h : stateP l) (x : Ext w w') : StR w (.returned (.string s)) w' := ⟨x, l, h, by rw [hs]⟩
theorem mod_cases4 (n : Int) : modI n 4 = 0 ∨ modI n 4 = 1 ∨ modI n 4 = 2 ∨ modI n 4 = 3 := by have := modI_bd (x := n) (m := 4) (by omega); omega
set_option maxHeartbeats 1000000 in
theorem state4_any (n : Int) (w : World) (hn : wf64 n) : Calls Tryz.prog 113 #[.int .i64 n] w (StR w) := by
  obtain ⟨n0, n1⟩ := hn
  have HM := Lib.hid (fun W => mod_any n 4 W n0 n1 (by omega))
  have c4 := mod_cases4 n
  generalize modI n 4 = m4 at *
  clear n0 n1
  go_enter Tryz.func113, Tryz.ntmps113
  go_wp2_with fail
  refine (HM.out _).mono ?_
  rintro e w' ⟨rfl, rfl⟩
  rcases c4 with rfl | rfl | rfl | rfl
  · go_wp2_with fail
    go_ret
    exact StR.mk [85, 84, 79] _ rfl (by decide) ((Below.refl _ _).alloc (Nat.le_refl _) _)
  · go_wp2_with fail
    go_ret
    exact StR.mk [68] _ rfl (by decide) ((Below.refl _ _).alloc (Nat.le_refl _) _)
  · go_wp2_with fail
    go_ret
    exact StR.mk [88, 79, 77] _ rfl (by decide) ((Below.refl _ _).alloc (Nat.le_refl _) _)
  · go_wp2_with fail
    go_ret
    exact StR.mk [90, 90, 90] _ rfl (by decide) ((Below.refl _ _).alloc (Nat.le_refl _) _)
/-- Where a maker stands: the dice, the result's block. -/
structure NaB (w : World) (D b : Nat) (wr : World) : Prop where
  dice : ∃ L, DiceAt wr D b L
  rv : NcAt wr w.heap.size zeroN
  ext : Ext w wr
theorem NaB.tr {w : World} {D b : Nat} {wr wx : World} (h : NaB w D b wr) (e : Ext wr wx) : NaB w D b wx := by
  obtain ⟨⟨L, h1⟩, h2, h3⟩ := h
  exact ⟨⟨L, h1.ext e⟩, h2.ext e, h3.tr e⟩
theorem naNext {w : World} {D b : Nat} {wr : World} (n : Int) (n1 : 1 ≤ n) (n2 : n ≤ 4611686018427387904) (hD : w.heap.size < D) (h : NaB w D b wr) :
    Calls Tryz.prog 87 #[.pointer (some ⟨D, 0, none⟩), .int .i64 n] wr fun e w' => ∃ z : Int, 0 ≤ z ∧ z < n ∧ e = .returned (.int .i64 z) ∧ NaB w D b w' ∧ Gb D wr w' := by
  obtain ⟨⟨L, h1⟩, h2, h3⟩ := h
  refine (next_any n wr h1 n2).mono fun e w' ⟨q1, q2, q3, q4⟩ => ⟨dv L n, (dv_bd L n1).1, (dv_bd L n1).2, q1, ⟨⟨_, q3⟩, (q2.block _ h2.lt (fun q => ?_)).trans h2, Gb.below h3 q2 (by omega)⟩, q2⟩
  injection q with q
  omega
theorem NaB.poke {w : World} {D b g : Nat} {wx : World} (h : NaB w D b wx) (h1 : D ≠ g) (h2 : b ≠ g) (h3 : w.heap.size < g) (i : Nat) (v : Value) : NaB w D b (wx.setCell ⟨g, i, none⟩ v) := by
  obtain ⟨⟨L, q1⟩, q2, q3⟩ := h
  exact ⟨⟨L, q1.keep (setCell_block h1) (setCell_block h2)⟩, q2.other (by omega), ext_set q3 (by omega)⟩
theorem NcAt.setOwn {w : World} {g : Nat} {c : NC} (h : NcAt w g c) (x : Int) : NcAt (w.setCell ⟨g, 4, none⟩ (.int .i64 x)) g ⟨c.st, c.kind, c.num, c.iss, x, c.key, c.fr, c.un, c.to, c.e, c.s⟩ := by
  have h9 := row_set h 4 (.int .i64 x)
  simp only [List.setIfInBounds_toArray, List.set_cons_zero, List.set_cons_succ] at h9
  exact h9
theorem NcAt.setUn {w : World} {g : Nat} {c : NC} (h : NcAt w g c) (x : Int) : NcAt (w.setCell ⟨g, 7, none⟩ (.int .i64 x)) g ⟨c.st, c.kind, c.num, c.iss, c.own, c.key, c.fr, x, c.to, c.e, c.s⟩ := by
  have h9 := row_set h 7 (.int .i64 x)
  simp only [List.setIfInBounds_toArray, List.set_cons_zero, List.set_cons_succ] at h9
  exact h9
theorem NcAt.setTo {w : World} {g : Nat} {c : NC} (h : NcAt w g c) (x : Int) : NcAt (w.setCell ⟨g, 8, none⟩ (.int .i64 x)) g ⟨c.st, c.kind, c.num, c.iss, c.own, c.key, c.fr, c.un, x, c.e, c.s⟩ := by
  have h9 := row_set h 8 (.int .i64 x)
  simp only [List.setIfInBounds_toArray, List.set_cons_zero, List.set_cons_succ] at h9
  exact h9
/-- A certificate that is signed with its own key. -/
def NatR (w : World) (e : Ending) (w' : World) : Prop := Ext w w' ∧ ∃ (k : Int) (c : NC), inB 1 1073741789 k = true ∧ ckN c = 0 ∧ c.key = pw 4 k ∧ e = .returned (.tuple #[ncV (isCN k c), .int .i64 k])
set_option maxHeartbeats 8000000 in
theorem national_any {v : Value} {l : List Int} (w : World) (h : RdI w .i64 v l) (hw : ∀ x ∈ l, wf64 x) (hl : l.length ≤ 1000) (E : KTab w 0) :
    Calls Tryz.prog 49 #[v] w (NatR w) := by
  obtain ⟨wz, hwz, z0, zr⟩ := nzero_alloc w
  have hzs : wz.heap.size = w.heap.size + 1 := by rw [hwz]; simp
  go_enter Tryz.func49, Tryz.ntmps49
  go_wp2_with fail
  rw [← hwz]
  clear hwz
  refine (roll_any wz (h.ext z0) hw hl).mono ?_
  rintro e w1 ⟨D, b, rfl, hD, hb, hd, b1⟩
  have hD' : w.heap.size < D := by omega
  have hb' : w.heap.size < b := by omega
  have N1 := Lib.hid (show NaB w D b w1 from ⟨⟨_, hd⟩, zr.ext b1, z0.tr b1⟩)
  clear hD hb hd b1 zr z0 hzs h
  go_wp2_with fail
  refine (naNext 1000 (by omega) (by omega) hD' N1.out).mono ?_
  rintro e w2 ⟨z0, a0, a1, rfl, n2, g2⟩
  have N2 := Lib.hid n2
  clear n2 g2 N1
  go_wp2_with fail
  refine (secretM_any z0 _ (by omega) (by omega)).mono ?_
  rintro e w' ⟨rfl, rfl⟩
  have hk := near_in z0
  have hp : pw 4 (nearI z0) = pw 4 (nearI z0) := rfl
  generalize hpp : pw 4 (nearI z0) = p at *
  generalize nearI z0 = k at *
  have HP := Lib.hid hpp.symm
  have HK := Lib.hid hk
  clear hp hpp hk a0 a1
  go_wp2_with fail
  refine (naNext 4 (by omega) (by omega) hD' N2.out).mono ?_
  rintro e w3 ⟨z1, a0, a1, rfl, n3, g3⟩
  have N3 := Lib.hid n3
  clear n3 g3 N2
  go_wp2_with fail
  refine (state4_any z1 _ ⟨by omega, by omega⟩).mono ?_
  rintro e w4 ⟨x4, st, hst, rfl⟩
  have N4 := Lib.hid (N3.out.tr x4)
  have HST := Lib.hid hst
  clear x4 hst a0 a1 N3
  go_wp2_with fail
  refine (naNext 4 (by omega) (by omega) hD' N4.out).mono ?_
  rintro e w5 ⟨z2, b0, b1, rfl, n5, g5⟩
  have N5 := Lib.hid n5
  clear n5 g5 N4
  go_wp2_with fail
  refine (naNext 50 (by omega) (by omega) hD' N5.out).mono ?_
  rintro e w6 ⟨z3, c0, c1, rfl, n6, g6⟩
  have N6 := Lib.hid n6
  clear n6 g6 N5
  go_wp2_with fail
  refine (naNext 3 (by omega) (by omega) hD' N6.out).mono ?_
  rintro e w7 ⟨z4, d0, d1, rfl, n7, g7⟩
  have N7 := Lib.hid n7
  clear n7 g7 N6
  go_wp2_with fail
  refine (naNext 6 (by omega) (by omega) hD' N7.out).mono ?_
  rintro e w8 ⟨z5, e0, e1, rfl, n8, g8⟩
  have N8 := Lib.hid n8
  clear n8 g8 N7
  go_wp2_with fail
  refine (naNext 300 (by omega) (by omega) hD' N8.out).mono ?_
  rintro e w9 ⟨z6, f0, f1, rfl, n9, g9⟩
  have N9 := Lib.hid n9
  clear n9 g9 N8
  obtain ⟨wa1, hwb1, ea1, TA1⟩ := nzero_alloc w9
  have hwa1 := hwb1.symm
  clear hwb1
  obtain ⟨wc1, hwc1, ec1, TC1⟩ : ∃ wc, wc = (((((((((((wa1.setCell ⟨w9.heap.size, 0, none⟩ (.string (bstr st))).setCell ⟨w9.heap.size, 1, none⟩ (.int .i64 (1 + z2))).setCell ⟨w9.heap.size, 2, none⟩ (.int .i64 (1 + z3))).setCell ⟨w9.heap.size, 3, none⟩ (.int .i64 (1 + z4))).setCell ⟨w9.heap.size, 4, none⟩ (.int .i64 (1 + z5))).setCell ⟨w9.heap.size, 5, none⟩ (.int .i64 p)).setCell ⟨w9.heap.size, 6, none⟩ (.int .i64 z6)).setCell ⟨w9.heap.size, 7, none⟩ (.int .i64 0)).setCell ⟨w9.heap.size, 8, none⟩ (.int .i64 0)).setCell ⟨w9.heap.size, 9, none⟩ (.int .i64 0)).setCell ⟨w9.heap.size, 10, none⟩ (.int .i64 0)) ∧ Ext w9 wc ∧ NcAt wc w9.heap.size (⟨st, 1 + z2, 1 + z3, 1 + z4, 1 + z5, p, z6, 0, 0, 0, 0⟩ : NC)  := ⟨_, rfl, ext_setN ea1 (Nat.le_refl _) (⟨st, 1 + z2, 1 + z3, 1 + z4, 1 + z5, p, z6, 0, 0, 0, 0⟩ : NC) , TA1.setN (⟨st, 1 + z2, 1 + z3, 1 + z4, 1 + z5, p, z6, 0, 0, 0, 0⟩ : NC) ⟩
  have HZ1 := Lib.hid (show wc1.heap.size = wa1.heap.size by rw [hwc1]; simp)
  have hla1 := TA1.lt
  obtain ⟨ra0, ra1, ra2, ra3, ra4, ra5, ra6, ra7, ra8, ra9, ra10⟩ := TA1.cells
  have ga0 := TA1.frozen 0
  have ga1 := TA1.frozen 1
  have ga2 := TA1.frozen 2
  have ga3 := TA1.frozen 3
  have ga4 := TA1.frozen 4
  have ga5 := TA1.frozen 5
  have ga6 := TA1.frozen 6
  have ga7 := TA1.frozen 7
  have ga8 := TA1.frozen 8
  have ga9 := TA1.frozen 9
  have ga10 := TA1.frozen 10
  clear ea1
  have hDg : D ≠ w9.heap.size := by obtain ⟨L, h⟩ := N9.out.dice; have := h.lt; omega
  have hbg : b ≠ w9.heap.size := by obtain ⟨L, h⟩ := N9.out.dice; have := h.ltb; omega
  have hwg : w.heap.size < w9.heap.size := N9.out.rv.lt
  have hgD : w9.heap.size ≠ D := fun q => hDg q.symm
  go_upto_region 4 with fail
  rw [← hwc1]
  clear hwc1 hwa1 hla1 TA1 ra0 ga0 ra1 ga1 ra2 ga2 ra3 ga3 ra4 ga4 ra5 ga5 ra6 ga6 ra7 ga7 ra8 ga8 ra9 ga9 ra10 ga10
  have M1 := Lib.hid (N9.out.tr ec1)
  clear ec1 HZ1 N9
  obtain ⟨t0, t1, t2, t3, t4, t5, t6, t7, t8, t9, t10⟩ := (TC1).cells
  have tf0 := (TC1).frozen 0
  have tf1 := (TC1).frozen 1
  have tf2 := (TC1).frozen 2
  have tf3 := (TC1).frozen 3
  have tf4 := (TC1).frozen 4
  have tf5 := (TC1).frozen 5
  have tf6 := (TC1).frozen 6
  have tf7 := (TC1).frozen 7
  have tf8 := (TC1).frozen 8
  have tf9 := (TC1).frozen 9
  have tf10 := (TC1).frozen 10
  have tl := (TC1).lt
  go_upto_if 39 with fail
  go_cut [] from 38 to 48 (fun wx => ∃ ow : Int, 1 ≤ ow ∧ ow ≤ 100 ∧ Hid (1 + z4 = ow ↔ 1 + z2 = 1) ∧ NaB w D b wx ∧ NcAt wx w9.heap.size ⟨st, 1 + z2, 1 + z3, 1 + z4, ow, p, z6, 0, 0, 0, 0⟩)
  case first =>
    by_cases h2 : z2 = 0
    · have hb : ((1 + z2) == 1) = true := by simp; omega
      have HZ := Lib.hid (show 1 + z2 = 1 by omega)
      clear h2
      go_wp2_with fail
      go_meet
      exact ⟨1 + z4, by omega, by omega, (show Hid (1 + z4 = 1 + z4 ↔ 1 + z2 = 1) from ⟨fun _ => HZ.out, fun _ => rfl⟩), M1.out.poke hDg hbg hwg _ _, TC1.setOwn _⟩
    · have hb : ((1 + z2) == 1) = false := by simp; omega
      by_cases h5 : z5 = z4
      · have hb2 : ((1 + z5) == (1 + z4)) = true := by simp; omega
        have HI := Lib.hid (show (1 + z4 = 9 ↔ 1 + z2 = 1) from ⟨fun _ => by omega, fun _ => by omega⟩)
        clear h2 h5
        go_wp2_with fail
        go_meet
        exact ⟨9, by omega, by omega, HI.out, M1.out.poke hDg hbg hwg _ _, TC1.setOwn _⟩
      · have hb2 : ((1 + z5) == (1 + z4)) = false := by simp; omega
        have HI := Lib.hid (show (1 + z4 = 1 + z5 ↔ 1 + z2 = 1) from ⟨fun _ => by omega, fun _ => by omega⟩)
        clear h2 h5
        go_wp2_with fail
        go_meet
        exact ⟨1 + z5, by omega, by omega, HI.out, M1.out, TC1⟩
  case rest =>
  obtain ⟨ow, ow0, ow1, HOW, m2, T2⟩ := hcut
  have M2 := Lib.hid m2
  clear t0 tf0 t1 tf1 t2 tf2 t3 tf3 t4 tf4 t5 tf5 t6 tf6 t7 tf7 t8 tf8 t9 tf9 t10 tf10 tl
  clear m2 TC1 M1
  go_upto_region 8 with fail
  go_cut [] from 49 to 54 (fun wx => ∃ z : Int, 0 ≤ z ∧ z < 50 ∧ NaB w D b wx ∧ NcAt wx w9.heap.size ⟨st, 1 + z2, 1 + z3, 1 + z4, ow, p, z6, z6 + z, 0, 0, 0⟩)
  case first =>
    obtain ⟨t0, t1, t2, t3, t4, t5, t6, t7, t8, t9, t10⟩ := (T2).cells
    have tf0 := (T2).frozen 0
    have tf1 := (T2).frozen 1
    have tf2 := (T2).frozen 2
    have tf3 := (T2).frozen 3
    have tf4 := (T2).frozen 4
    have tf5 := (T2).frozen 5
    have tf6 := (T2).frozen 6
    have tf7 := (T2).frozen 7
    have tf8 := (T2).frozen 8
    have tf9 := (T2).frozen 9
    have tf10 := (T2).frozen 10
    have tl := (T2).lt
    go_region_with ((go_at_call 87; refine (naNext 50 (by omega) (by omega) hD' (M2.out.tr (by first | exact Below.refl _ _ | exact (Below.refl _ _).drew | exact Ext.drewN_ _ _))).mono ?_; rintro e w5 ⟨z, q0, q1, rfl, n5, g5⟩; have T5 : NcAt w5 w9.heap.size ⟨st, 1 + z2, 1 + z3, 1 + z4, ow, p, z6, 0, 0, 0, 0⟩ := (g5.block _ T2.lt (fun q => hgD (by injection q))).trans T2; obtain ⟨y0, y1, y2, y3, y4, y5, y6, y7, y8, y9, y10⟩ := NcAt.cells T5; have yf7 := NcAt.frozen T5 7; have yf8 := NcAt.frozen T5 8; have yl := NcAt.lt T5; have wj : IntKind.i64.wrap (z6 + z) = z6 + z := IntWalk.i64_in _ (by omega)))
    all_goals (go_wp2_with fail; go_meet; exact ⟨z, q0, q1, n5.poke hDg hbg hwg _ _, NcAt.setUn (c := ⟨st, 1 + z2, 1 + z3, 1 + z4, ow, p, z6, 0, 0, 0, 0⟩) T5 _⟩)
  case rest =>
  obtain ⟨z7, h0, h1, m3, T3⟩ := hcut
  have M3 := Lib.hid m3
  clear m3 T2 M2
  go_upto_region 9 with fail
  go_cut [] from 55 to 60 (fun wx => ∃ z : Int, 0 ≤ z ∧ z < 100 ∧ NaB w D b wx ∧ NcAt wx w9.heap.size ⟨st, 1 + z2, 1 + z3, 1 + z4, ow, p, z6, z6 + z7, z6 + z7 + z, 0, 0⟩)
  case first =>
    obtain ⟨t0, t1, t2, t3, t4, t5, t6, t7, t8, t9, t10⟩ := (T3).cells
    have tf0 := (T3).frozen 0
    have tf1 := (T3).frozen 1
    have tf2 := (T3).frozen 2
    have tf3 := (T3).frozen 3
    have tf4 := (T3).frozen 4
    have tf5 := (T3).frozen 5
    have tf6 := (T3).frozen 6
    have tf7 := (T3).frozen 7
    have tf8 := (T3).frozen 8
    have tf9 := (T3).frozen 9
    have tf10 := (T3).frozen 10
    have tl := (T3).lt
    go_region_with ((go_at_call 87; refine (naNext 100 (by omega) (by omega) hD' (M3.out.tr (by first | exact Below.refl _ _ | exact (Below.refl _ _).drew | exact Ext.drewN_ _ _))).mono ?_; rintro e w5 ⟨z, q0, q1, rfl, n5, g5⟩; have T5 : NcAt w5 w9.heap.size ⟨st, 1 + z2, 1 + z3, 1 + z4, ow, p, z6, z6 + z7, 0, 0, 0⟩ := (g5.block _ T3.lt (fun q => hgD (by injection q))).trans T3; obtain ⟨y0, y1, y2, y3, y4, y5, y6, y7, y8, y9, y10⟩ := NcAt.cells T5; have yf7 := NcAt.frozen T5 7; have yf8 := NcAt.frozen T5 8; have yl := NcAt.lt T5; have wj : IntKind.i64.wrap ((z6 + z7) + z) = (z6 + z7) + z := IntWalk.i64_in _ (by omega)))
    all_goals (go_wp2_with fail; go_meet; exact ⟨z, q0, q1, n5.poke hDg hbg hwg _ _, NcAt.setTo (c := ⟨st, 1 + z2, 1 + z3, 1 + z4, ow, p, z6, z6 + z7, 0, 0, 0⟩) T5 _⟩)
  case rest =>
  obtain ⟨z8, i0, i1, m4, T4⟩ := hcut
  have M4 := Lib.hid m4
  clear m4 T3 M3
  obtain ⟨c9, hc9⟩ : ∃ c9 : NC, c9 = ⟨st, 1 + z2, 1 + z3, 1 + z4, ow, p, z6, z6 + z7, z6 + z7 + z8, 0, 0⟩ := ⟨_, rfl⟩
  rw [← hc9] at T4
  have hck : ckN c9 = 0 := by
    rw [hc9]
    exact ckN_yes HST.out (by show ¬ (1 + z2 < 1 ∨ 4 < 1 + z2); omega) ⟨⟨by show (1 : Int) ≤ 1 + z3; omega, by show 1 + z3 ≤ 1073741824; omega⟩, ⟨by show (1 : Int) ≤ 1 + z4; omega, by show 1 + z4 ≤ 1073741824; omega⟩, ⟨ow0, by show ow ≤ 1073741824; omega⟩, HOW.out⟩
      (by show isElem p = true; rw [HP.out]; exact pub_elem (inB_true HK.out).1 (inB_true HK.out).2) ⟨f0, by show z6 ≤ z6 + z7; omega, by show z6 + z7 ≤ z6 + z7 + z8; omega, by show z6 + z7 + z8 ≤ 73048; omega⟩
  have hkey : c9.key = pw 4 k := by rw [hc9]; exact HP.out
  have FIN := Lib.hid (show inB 1 1073741789 k = true ∧ ckN c9 = 0 ∧ c9.key = pw 4 k from ⟨HK.out, hck, hkey⟩)
  have HSM := Lib.hid (sm_ofN hck)
  clear hc9 hck hkey HOW HP HK HST ow0 ow1 h0 h1 i0 i1 f0 f1 e0 e1 d0 d1 c0 c1 b0 b1
  obtain ⟨t0, t1, t2, t3, t4, t5, t6, t7, t8, t9, t10⟩ := (T4).cells
  have tf0 := (T4).frozen 0
  have tf1 := (T4).frozen 1
  have tf2 := (T4).frozen 2
  have tf3 := (T4).frozen 3
  have tf4 := (T4).frozen 4
  have tf5 := (T4).frozen 5
  have tf6 := (T4).frozen 6
  have tf7 := (T4).frozen 7
  have tf8 := (T4).frozen 8
  have tf9 := (T4).frozen 9
  have tf10 := (T4).frozen 10
  have tl := (T4).lt
  go_wp2_with fail
  refine (nrefissue_any k c9 _ HSM.out (E.below M4.out.ext)).mono ?_
  rintro e w10 ⟨rfl, b10⟩
  have M10 := Lib.hid (M4.out.tr b10)
  clear t0 tf0 t1 tf1 t2 tf2 t3 tf3 t4 tf4 t5 tf5 t6 tf6 t7 tf7 t8 tf8 t9 tf9 t10 tf10 tl
  clear T4 M4 b10
  obtain ⟨ci, hci⟩ : ∃ ci, ci = isCN k c9 := ⟨_, rfl⟩
  rw [← hci]
  have HCI := Lib.hid hci
  clear hci
  obtain ⟨wa2, hwb2, ea2, TA2⟩ := nzero_alloc w10
  have hwa2 := hwb2.symm
  clear hwb2
  obtain ⟨wc2, hwc2, ec2, TC2⟩ : ∃ wc, wc = (((((((((((wa2.setCell ⟨w10.heap.size, 0, none⟩ (.string (bstr ci.st))).setCell ⟨w10.heap.size, 1, none⟩ (.int .i64 ci.kind)).setCell ⟨w10.heap.size, 2, none⟩ (.int .i64 ci.num)).setCell ⟨w10.heap.size, 3, none⟩ (.int .i64 ci.iss)).setCell ⟨w10.heap.size, 4, none⟩ (.int .i64 ci.own)).setCell ⟨w10.heap.size, 5, none⟩ (.int .i64 ci.key)).setCell ⟨w10.heap.size, 6, none⟩ (.int .i64 ci.fr)).setCell ⟨w10.heap.size, 7, none⟩ (.int .i64 ci.un)).setCell ⟨w10.heap.size, 8, none⟩ (.int .i64 ci.to)).setCell ⟨w10.heap.size, 9, none⟩ (.int .i64 ci.e)).setCell ⟨w10.heap.size, 10, none⟩ (.int .i64 ci.s)) ∧ Ext w10 wc ∧ NcAt wc w10.heap.size ci := ⟨_, rfl, ext_setN ea2 (Nat.le_refl _) ci, TA2.setN ci⟩
  have HZ2 := Lib.hid (show wc2.heap.size = wa2.heap.size by rw [hwc2]; simp)
  have hla2 := TA2.lt
  obtain ⟨ra0, ra1, ra2, ra3, ra4, ra5, ra6, ra7, ra8, ra9, ra10⟩ := TA2.cells
  have ga0 := TA2.frozen 0
  have ga1 := TA2.frozen 1
  have ga2 := TA2.frozen 2
  have ga3 := TA2.frozen 3
  have ga4 := TA2.frozen 4
  have ga5 := TA2.frozen 5
  have ga6 := TA2.frozen 6
  have ga7 := TA2.frozen 7
  have ga8 := TA2.frozen 8
  have ga9 := TA2.frozen 9
  have ga10 := TA2.frozen 10
  clear ea2
  unfold ncV
  go_upto_region 11 with fail
  rw [← hwc2]
  clear hwc2 hwa2 hla2 TA2 ra0 ga0 ra1 ga1 ra2 ga2 ra3 ga3 ra4 ga4 ra5 ga5 ra6 ga6 ra7 ga7 ra8 ga8 ra9 ga9 ra10 ga10
  have M11 := M10.out.tr ec2
  have XF := Lib.hid (ext_setN M11.ext (Nat.le_refl _) ci)
  have TZ : NcAt (set11 wc2 w.heap.size (.string (bstr ci.st)) (.int .i64 ci.kind) (.int .i64 ci.num) (.int .i64 ci.iss) (.int .i64 ci.own) (.int .i64 ci.key) (.int .i64 ci.fr) (.int .i64 ci.un) (.int .i64 ci.to) (.int .i64 ci.e) (.int .i64 ci.s)) w.heap.size ci := M11.rv.setN ci
  obtain ⟨r0, r1, r2, r3, r4, r5, r6, r7, r8, r9, r10⟩ := (M11.rv).cells
  have rf0 := (M11.rv).frozen 0
  have rf1 := (M11.rv).frozen 1
  have rf2 := (M11.rv).frozen 2
  have rf3 := (M11.rv).frozen 3
  have rf4 := (M11.rv).frozen 4
  have rf5 := (M11.rv).frozen 5
  have rf6 := (M11.rv).frozen 6
  have rf7 := (M11.rv).frozen 7
  have rf8 := (M11.rv).frozen 8
  have rf9 := (M11.rv).frozen 9
  have rf10 := (M11.rv).frozen 10
  have rl := (M11.rv).lt
  obtain ⟨t0, t1, t2, t3, t4, t5, t6, t7, t8, t9, t10⟩ := (TC2).cells
  have tf0 := (TC2).frozen 0
  have tf1 := (TC2).frozen 1
  have tf2 := (TC2).frozen 2
  have tf3 := (TC2).frozen 3
  have tf4 := (TC2).frozen 4
  have tf5 := (TC2).frozen 5
  have tf6 := (TC2).frozen 6
  have tf7 := (TC2).frozen 7
  have tf8 := (TC2).frozen 8
  have tf9 := (TC2).frozen 9
  have tf10 := (TC2).frozen 10
  have tl := (TC2).lt
  clear HZ2 M11
  go_wp2_with fail
  refine bodyPost_ret (v := .tuple #[ncV ci, .int .i64 k]) ?_ rfl ⟨XF.out, k, c9, FIN.out.1, FIN.out.2.1, FIN.out.2.2, by rw [HCI.out]⟩
  obtain ⟨q0, q1, q2, q3, q4, q5, q6, q7, q8, q9, q10⟩ := TZ.cells
  clear r0 rf0 r1 rf1 r2 rf2 r3 rf3 r4 rf4 r5 rf5 r6 rf6 r7 rf7 r8 rf8 r9 rf9 r10 rf10 rl
  clear t0 tf0 t1 tf1 t2 tf2 t3 tf3 t4 tf4 t5 tf5 t6 tf6 t7 tf7 t8 tf8 t9 tf9 t10 tf10 tl
  simp [results, Tryz.results49, go_sem, ncV, q0, q1, q2, q3, q4, q5, q6, q7, q8, q9, q10]
end Go.Proofs.YteilglpdmfiinaaGreatDoor

namespace Go.Proofs.YteilglpdmfiinaaGreatDoor
open Go.RowKit
set_option linter.unusedVariables false
set_option maxRecDepth 100000

theorem rtN_issue {k : Int} {c : NC} (hk : inB 1 1073741789 k = true) (hc : ckN c = 0) (hp : c.key = pw 4 k) : rtN (isCN k c) = ((isCN k c).kind == 1) := by
  have hkey : (isCN k c).key = pw 4 k := by rw [isCN_in hk hc]; exact hp
  unfold rtN
  rw [hkey, vfN_issue hk hc]
  by_cases h : (isCN k c).kind = 1
  · rw [if_pos h, h]; rfl
  · rw [if_neg h]; simp [h]
set_option maxHeartbeats 4000000 in
theorem nback_any {v : Value} {l : List Int} (w : World) (h : RdI w .i64 v l) (hw : ∀ x ∈ l, wf64 x) (E : Env w) :
    Calls Tryz.prog 12 #[v] w (RetQ w (.bool true)) := by
  go_enter Tryz.func12, Tryz.ntmps12
  go_wp2_with fail
  refine (mlight_any w h).mono ?_
  rintro e w' ⟨rfl, rfl⟩
  by_cases hL : l.length ≤ 80
  · rw [decide_eq_true hL]
    go_wp2_with fail
    refine (national_any w h hw (by omega) E.r).mono ?_
    rintro e w1 ⟨x1, k, c0, hk, hck, hkey, rfl⟩
    have hv := validN_issue hk hck
    have h1 := vfN_issue hk hck
    have h2 := rtN_issue hk hck hkey
    have hkc : (isCN k c0).key = pw 4 k := by rw [isCN_in hk hck]; exact hkey
    rw [← hkc] at h1
    have hsa := sm_ofN hv.1
    clear hk hck hkey hkc h hw hL
    generalize isCN k c0 = ca at *
    have hek := ecKN_valid.2 hv
    have hdt := dtN_of hv
    have hln := ecBN_len ca
    have HDT := Lib.hid hdt
    have H1 := Lib.hid h1
    have H2 := Lib.hid h2
    clear h1 h2 hdt hv
    obtain ⟨wa1, hwb1, ea1, TA1⟩ := nzero_alloc w1
    have hwa1 := hwb1.symm
    clear hwb1
    obtain ⟨wc1, hwc1, ec1, TC1⟩ : ∃ wc, wc = (((((((((((wa1.setCell ⟨w1.heap.size, 0, none⟩ (.string (bstr ca.st))).setCell ⟨w1.heap.size, 1, none⟩ (.int .i64 ca.kind)).setCell ⟨w1.heap.size, 2, none⟩ (.int .i64 ca.num)).setCell ⟨w1.heap.size, 3, none⟩ (.int .i64 ca.iss)).setCell ⟨w1.heap.size, 4, none⟩ (.int .i64 ca.own)).setCell ⟨w1.heap.size, 5, none⟩ (.int .i64 ca.key)).setCell ⟨w1.heap.size, 6, none⟩ (.int .i64 ca.fr)).setCell ⟨w1.heap.size, 7, none⟩ (.int .i64 ca.un)).setCell ⟨w1.heap.size, 8, none⟩ (.int .i64 ca.to)).setCell ⟨w1.heap.size, 9, none⟩ (.int .i64 ca.e)).setCell ⟨w1.heap.size, 10, none⟩ (.int .i64 ca.s)) ∧ Ext w1 wc ∧ NcAt wc w1.heap.size ca := ⟨_, rfl, ext_setN ea1 (Nat.le_refl _) ca, TA1.setN ca⟩
    have HZ1 := Lib.hid (show wc1.heap.size = wa1.heap.size by rw [hwc1]; simp)
    have hla1 := TA1.lt
    obtain ⟨ra0, ra1, ra2, ra3, ra4, ra5, ra6, ra7, ra8, ra9, ra10⟩ := TA1.cells
    have ga0 := TA1.frozen 0
    have ga1 := TA1.frozen 1
    have ga2 := TA1.frozen 2
    have ga3 := TA1.frozen 3
    have ga4 := TA1.frozen 4
    have ga5 := TA1.frozen 5
    have ga6 := TA1.frozen 6
    have ga7 := TA1.frozen 7
    have ga8 := TA1.frozen 8
    have ga9 := TA1.frozen 9
    have ga10 := TA1.frozen 10
    clear ea1
    unfold ncV
    go_upto_region 4 with fail
    rw [← hwc1]
    clear hwc1 hwa1 hla1 TA1 ra0 ga0 ra1 ga1 ra2 ga2 ra3 ga3 ra4 ga4 ra5 ga5 ra6 ga6 ra7 ga7 ra8 ga8 ra9 ga9 ra10 ga10
    have x2 := x1.tr ec1
    clear HZ1 x1 ec1
    obtain ⟨p0, p1, p2, p3, p4, p5, p6, p7, p8, p9, p10⟩ := (TC1).cells
    have pf0 := (TC1).frozen 0
    have pf1 := (TC1).frozen 1
    have pf2 := (TC1).frozen 2
    have pf3 := (TC1).frozen 3
    have pf4 := (TC1).frozen 4
    have pf5 := (TC1).frozen 5
    have pf6 := (TC1).frozen 6
    have pf7 := (TC1).frozen 7
    have pf8 := (TC1).frozen 8
    have pf9 := (TC1).frozen 9
    have pf10 := (TC1).frozen 10
    have pl := (TC1).lt
    go_wp2_with fail
    refine (nencode_any ca _ hsa).mono ?_
    rintro e w2 ⟨A2, n2, c2, rfl, hn2, r2, b2⟩
    rw [hek]
    have T2 := TC1.ext b2
    clear p0 pf0 p1 pf1 p2 pf2 p3 pf3 p4 pf4 p5 pf5 p6 pf6 p7 pf7 p8 pf8 p9 pf9 p10 pf10 pl
    clear TC1
    go_wp2_with fail
    refine (ndecode_any _ r2 (by omega)).mono ?_
    rintro e w3 ⟨rfl, b3⟩
    have x3 := (x2.tr b2).tr b3
    have T3 := T2.ext b3
    rw [HDT.out.1, HDT.out.2]
    clear r2 hn2 b2 b3 T2 hek hln HDT x2
    obtain ⟨wa2, hwb2, ea2, TA2⟩ := nzero_alloc w3
    have hwa2 := hwb2.symm
    clear hwb2
    obtain ⟨wc2, hwc2, ec2, TC2⟩ : ∃ wc, wc = (((((((((((wa2.setCell ⟨w3.heap.size, 0, none⟩ (.string (bstr ca.st))).setCell ⟨w3.heap.size, 1, none⟩ (.int .i64 ca.kind)).setCell ⟨w3.heap.size, 2, none⟩ (.int .i64 ca.num)).setCell ⟨w3.heap.size, 3, none⟩ (.int .i64 ca.iss)).setCell ⟨w3.heap.size, 4, none⟩ (.int .i64 ca.own)).setCell ⟨w3.heap.size, 5, none⟩ (.int .i64 ca.key)).setCell ⟨w3.heap.size, 6, none⟩ (.int .i64 ca.fr)).setCell ⟨w3.heap.size, 7, none⟩ (.int .i64 ca.un)).setCell ⟨w3.heap.size, 8, none⟩ (.int .i64 ca.to)).setCell ⟨w3.heap.size, 9, none⟩ (.int .i64 ca.e)).setCell ⟨w3.heap.size, 10, none⟩ (.int .i64 ca.s)) ∧ Ext w3 wc ∧ NcAt wc w3.heap.size ca := ⟨_, rfl, ext_setN ea2 (Nat.le_refl _) ca, TA2.setN ca⟩
    have HZ2 := Lib.hid (show wc2.heap.size = wa2.heap.size by rw [hwc2]; simp)
    have hla2 := TA2.lt
    obtain ⟨ra0, ra1, ra2, ra3, ra4, ra5, ra6, ra7, ra8, ra9, ra10⟩ := TA2.cells
    have ga0 := TA2.frozen 0
    have ga1 := TA2.frozen 1
    have ga2 := TA2.frozen 2
    have ga3 := TA2.frozen 3
    have ga4 := TA2.frozen 4
    have ga5 := TA2.frozen 5
    have ga6 := TA2.frozen 6
    have ga7 := TA2.frozen 7
    have ga8 := TA2.frozen 8
    have ga9 := TA2.frozen 9
    have ga10 := TA2.frozen 10
    clear ea2
    unfold ncV
    go_upto_region 6 with fail
    rw [← hwc2]
    clear hwc2 hwa2 hla2 TA2 ra0 ga0 ra1 ga1 ra2 ga2 ra3 ga3 ra4 ga4 ra5 ga5 ra6 ga6 ra7 ga7 ra8 ga8 ra9 ga9 ra10 ga10
    have x4 := x3.tr ec2
    have T4 := T3.ext ec2
    clear HZ2 T3 x3 ec2
    refine Gd.wp_region_X 28 (by kernel_rfl) (by kernel_rfl) ?_
    simp only [List.take_succ_cons, List.take_zero, List.drop_succ_cons, List.drop_zero]
    intro wq hw1
    have LL : ∀ m : Lt wq, Ext wc2 m.1 := fun m => hw1.tr m.2
    have P0 : ∀ m : Lt wq, NcAt m.1 w1.heap.size ca := fun m => T4.ext (LL m)
    have p0 := fun m : Lt wq => (P0 m).cells.1
    have p1 := fun m : Lt wq => (P0 m).cells.2.1
    have p2 := fun m : Lt wq => (P0 m).cells.2.2.1
    have p3 := fun m : Lt wq => (P0 m).cells.2.2.2.1
    have p4 := fun m : Lt wq => (P0 m).cells.2.2.2.2.1
    have p5 := fun m : Lt wq => (P0 m).cells.2.2.2.2.2.1
    have p6 := fun m : Lt wq => (P0 m).cells.2.2.2.2.2.2.1
    have p7 := fun m : Lt wq => (P0 m).cells.2.2.2.2.2.2.2.1
    have p8 := fun m : Lt wq => (P0 m).cells.2.2.2.2.2.2.2.2.1
    have p9 := fun m : Lt wq => (P0 m).cells.2.2.2.2.2.2.2.2.2.1
    have p10 := fun m : Lt wq => (P0 m).cells.2.2.2.2.2.2.2.2.2.2
    have Q0 : ∀ m : Lt wq, NcAt m.1 w3.heap.size ca := fun m => TC2.ext (LL m)
    have q0 := fun m : Lt wq => (Q0 m).cells.1
    have q1 := fun m : Lt wq => (Q0 m).cells.2.1
    have q2 := fun m : Lt wq => (Q0 m).cells.2.2.1
    have q3 := fun m : Lt wq => (Q0 m).cells.2.2.2.1
    have q4 := fun m : Lt wq => (Q0 m).cells.2.2.2.2.1
    have q5 := fun m : Lt wq => (Q0 m).cells.2.2.2.2.2.1
    have q6 := fun m : Lt wq => (Q0 m).cells.2.2.2.2.2.2.1
    have q7 := fun m : Lt wq => (Q0 m).cells.2.2.2.2.2.2.2.1
    have q8 := fun m : Lt wq => (Q0 m).cells.2.2.2.2.2.2.2.2.1
    have q9 := fun m : Lt wq => (Q0 m).cells.2.2.2.2.2.2.2.2.2.1
    have q10 := fun m : Lt wq => (Q0 m).cells.2.2.2.2.2.2.2.2.2.2
    refine Gd.wpX_callFn (by first | exact trivial | exact ⟨_, rfl, rfl, rfl⟩) (.bool true) (args := []) rfl rfl rfl rfl (by kernel_rfl) rfl rfl (fun m => (awake29_any m.1 (E.ext (x4.tr (LL m))).d).mono fun _ _ ⟨h1, h2⟩ => ⟨h1, h2⟩) ?_
    simp only [Act.put, List.setIfInBounds_toArray, List.set_cons_zero, List.set_cons_succ]
    repeat (refine Gd.wpX_pure (by first | exact trivial | exact ⟨_, rfl, rfl, rfl⟩) rfl rfl rfl rfl rfl (fun K hK => ?_); go_big_quiet_op; refine hK _ ?_; clear hK K)
    refine Gd.wpX_callFn (by first | exact trivial | exact ⟨_, rfl, rfl, rfl⟩) (.bool true) (args := [.int .i64 ca.key, ncV ca]) rfl rfl rfl rfl (by kernel_rfl) rfl rfl (fun m => (nverify_any ca.key ca m.1 hsa (E.ext (x4.tr (LL m))).d).mono fun _ _ ⟨h1, h2⟩ => ⟨by rw [h1, H1.out], h2⟩) ?_
    simp only [Act.put, List.setIfInBounds_toArray, List.set_cons_zero, List.set_cons_succ]
    repeat (refine Gd.wpX_pure (by first | exact trivial | exact ⟨_, rfl, rfl, rfl⟩) rfl rfl rfl rfl rfl (fun K hK => ?_); go_big_quiet_op; refine hK _ ?_; clear hK K)
    refine Gd.wpX_callFn (by first | exact trivial | exact ⟨_, rfl, rfl, rfl⟩) (.bool (ca.kind == 1)) (args := [ncV ca]) rfl rfl rfl rfl (by kernel_rfl) rfl rfl (fun m => (nationalcert_root ca m.1 hsa (E.ext (x4.tr (LL m))).d).mono fun _ _ ⟨h1, h2⟩ => ⟨by rw [h1, H2.out], h2⟩) ?_
    simp only [Act.put, List.setIfInBounds_toArray, List.set_cons_zero, List.set_cons_succ]
    repeat (refine Gd.wpX_pure (by first | exact trivial | exact ⟨_, rfl, rfl, rfl⟩) rfl rfl rfl rfl rfl (fun K hK => ?_); go_big_quiet_op; refine hK _ ?_; clear hK K)
    refine Gd.wpX_end0 (fun m => ?_)
    have Lm := x4.tr (LL m)
    obtain ⟨wm, hwm⟩ := m
    clear LL P0 Q0 p0 p1 p2 p3 p4 p5 p6 p7 p8 p9 p10 q0 q1 q2 q3 q4 q5 q6 q7 q8 q9 q10
    show wpList _ _ _ _ _ _
    go_wp2_with fail
    go_ret
    exact ⟨by simp, Lm⟩
  · rw [decide_eq_false hL]
    go_wp2_with fail
    refine (awake29_any w E.d).mono ?_
    rintro e w1 ⟨rfl, b1⟩
    go_wp2_with fail
    go_ret
    exact ⟨rfl, b1⟩
end Go.Proofs.YteilglpdmfiinaaGreatDoor
