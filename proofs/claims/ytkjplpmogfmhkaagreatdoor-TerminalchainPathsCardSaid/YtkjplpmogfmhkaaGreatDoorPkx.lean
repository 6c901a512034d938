/- Parts Yg Yh Yi Yj Yk of the proof. -/
import Derived.Test.YtkjplpmogfmhkaaGreatDoorPkw
import Derived.Deep.CutRange
namespace Go.Proofs.YtkjplpmogfmhkaaGreatDoor
open Go.RowKit
set_option linter.unusedVariables false
set_option maxRecDepth 100000

theorem follows_any (b r : Int) (w : World) : Calls Tryz.prog 188 #[.int .i64 b, .int .i64 r] w fun e w' => e = .returned (.bool (followB b r)) ∧ w = w' := by
  obtain ⟨q, hq⟩ : ∃ q, followB b r = q := ⟨_, rfl⟩
  rw [hq]
  by_cases h1 : b = 1
  · have hb : (b == 1) = true := by simp [h1]
    have HN := Lib.hid (show q = !(r == 4) by rw [← hq]; unfold followB; rw [if_pos h1]; by_cases h : r = 4 <;> simp [h])
    clear h1 hq
    go_enter Tryz.func188, Tryz.ntmps188
    go_wp2_with fail
    go_ret
    exact ⟨by rw [HN.out]; rfl, rfl⟩
  have hb : (b == 1) = false := by simp [h1]
  by_cases h2 : b = 2
  · have hb2 : (b == 2) = true := by simp [h2]
    have HN := Lib.hid (show q = (r == 4) by rw [← hq]; unfold followB; rw [if_neg h1, if_pos (.inl h2)]; by_cases h : r = 4 <;> simp [h])
    clear h1 h2 hq
    go_enter Tryz.func188, Tryz.ntmps188
    go_wp2_with fail
    go_ret
    exact ⟨by rw [HN.out]; rfl, rfl⟩
  have hb2 : (b == 2) = false := by simp [h2]
  by_cases h3 : b = 3
  · have hb3 : (b == 3) = true := by simp [h3]
    have HN := Lib.hid (show q = (r == 4) by rw [← hq]; unfold followB; rw [if_neg h1, if_pos (.inr h3)]; by_cases h : r = 4 <;> simp [h])
    clear h1 h2 h3 hq
    go_enter Tryz.func188, Tryz.ntmps188
    go_wp2_with fail
    go_ret
    exact ⟨by rw [HN.out]; rfl, rfl⟩
  have hb3 : (b == 3) = false := by simp [h3]
  have HN := Lib.hid (show q = false by rw [← hq]; unfold followB; rw [if_neg h1, if_neg (not_or.2 ⟨h2, h3⟩)])
  clear h1 h2 h3 hq
  go_enter Tryz.func188, Tryz.ntmps188
  go_wp2_with fail
  go_ret
  exact ⟨by rw [HN.out]; rfl, rfl⟩
abbrev set6 (w : World) (g : Nat) (v0 v1 v2 v3 v4 v5 : Value) : World := ((((((w.setCell ⟨g, 0, none⟩ v0).setCell ⟨g, 1, none⟩ v1).setCell ⟨g, 2, none⟩ v2).setCell ⟨g, 3, none⟩ v3).setCell ⟨g, 4, none⟩ v4).setCell ⟨g, 5, none⟩ v5)
abbrev setC (w : World) (g : Nat) (c : CH) : World := set6 w g (.string (bstr c.ho)) (.int .i64 c.key) (.int .i64 c.role) (.int .i64 c.rights) (.int .i64 c.fr) (.int .i64 c.to)
theorem ChAt.setC {w : World} {g : Nat} {c : CH} (h : ChAt w g c) (d : CH) : ChAt (setC w g d) g d := by
  have h9 := (row_set (row_set (row_set (row_set (row_set (row_set h 0 (.string (bstr d.ho))) 1 (.int .i64 d.key)) 2 (.int .i64 d.role)) 3 (.int .i64 d.rights)) 4 (.int .i64 d.fr)) 5 (.int .i64 d.to))
  simp only [List.setIfInBounds_toArray, List.set_cons_zero, List.set_cons_succ] at h9
  exact h9
theorem ext_setC {w w' : World} {g : Nat} (h : Ext w w') (hg : w.heap.size ≤ g) (c : CH) : Ext w (setC w' g c) :=
  ext_set (ext_set (ext_set (ext_set (ext_set (ext_set h hg) hg) hg) hg) hg) hg
/-- Where Start stands: the trust, the holder, the result. -/
structure StZ (w wr : World) (A : Option Addr) (n c : Nat) (d : Int) (h : List UInt8) : Prop where
  t : TrAt wr w.heap.size A n c d
  s : wr.cell? ⟨w.heap.size + 1, 0, none⟩ = some (.string (bstr h))
  r : ChAt wr (w.heap.size + 1 + 1) zeroC
  ext : Ext w wr
theorem StZ.sl {w wr : World} {A : Option Addr} {n c : Nat} {d : Int} {h : List UInt8} (z : StZ w wr A n c d h) : w.heap.size + 1 < wr.heap.size := World.block_lt_of_cell? wr _ z.s
theorem StZ.tr {w wr wx : World} {A : Option Addr} {n c : Nat} {d : Int} {h : List UInt8} (z : StZ w wr A n c d h) (e : Ext wr wx) : StZ w wx A n c d h := ⟨z.t.ext e, (e.cell (p := ⟨w.heap.size + 1, 0, none⟩) z.sl).trans z.s, z.r.ext e, z.ext.tr e⟩
theorem st_alloc (w : World) (A : Option Addr) (n c : Nat) (d : Int) (h : List UInt8) : ∃ wz, wz = ((w.alloc (.cells #[.slice A n c, .int .i64 d] 24)).alloc (.cells #[.string (bstr h)] 9)).alloc (.cells #[.string ⟨#[]⟩, .int .i64 0, .int .i64 0, .int .i64 0, .int .i64 0, .int .i64 0] 28) ∧ StZ w wz A n c d h := by
  obtain ⟨w1, hw1, e1, T1⟩ := tr_alloc w A n c d
  have s1 : w1.heap.size = w.heap.size + 1 := by rw [hw1]; simp
  rw [← hw1]
  clear hw1
  have e2 : Ext w1 (w1.alloc (.cells #[.string (bstr h)] 9)) := (Below.refl _ _).alloc (Nat.le_refl _) _
  have s2 : (w1.alloc (.cells #[.string (bstr h)] 9)).heap.size = w.heap.size + 1 + 1 := by simp [s1]
  have c2 : (w1.alloc (.cells #[.string (bstr h)] 9)).cell? ⟨w.heap.size + 1, 0, none⟩ = some (.string (bstr h)) := by
    have h2 : (w1.alloc (.cells #[.string (bstr h)] 9)).heap[w1.heap.size]? = some (.cells #[.string (bstr h)] 9 (0, 0)) := heap_alloc_new' w1 _
    rw [← s1, cell_of_row _ _ _ _ _ _ h2]
    rfl
  generalize w1.alloc (.cells #[.string (bstr h)] 9) = w2 at *
  have hl := World.block_lt_of_cell? w2 _ c2
  obtain ⟨w3, hw3, e3, T3⟩ := ch_alloc w2 zeroC
  rw [s2] at T3
  exact ⟨w3, hw3, T1.ext (e2.tr e3), (e3.cell (p := ⟨w.heap.size + 1, 0, none⟩) hl).trans c2, T3, (e1.tr e2).tr e3⟩
theorem ChAt.cells0 {w : World} {g : Nat} (h : ChAt w g zeroC) : w.cell? ⟨g, 0, none⟩ = some (.string ⟨#[]⟩) ∧ w.cell? ⟨g, 1, none⟩ = some (.int .i64 0) ∧ w.cell? ⟨g, 2, none⟩ = some (.int .i64 0) ∧ w.cell? ⟨g, 3, none⟩ = some (.int .i64 0) ∧ w.cell? ⟨g, 4, none⟩ = some (.int .i64 0) ∧ w.cell? ⟨g, 5, none⟩ = some (.int .i64 0) := h.cells
theorem start_idx {l : List TP} {d : Int} {h : List UInt8} (hv : vdK ⟨l, d⟩ = 0) :
    (idxP l h = -1 ∧ startC ⟨l, d⟩ h = zeroC ∧ startB ⟨l, d⟩ h = false) ∨ ∃ (j : Nat) (p : TP), l[j]? = some p ∧ idxP l h = (j : Int) ∧ startC ⟨l, d⟩ h = chOf p ∧ startB ⟨l, d⟩ h = true := by
  by_cases q : ∃ (j : Nat) (p : TP), l[j]? = some p ∧ p.ho = h ∧ ∀ i u, i < j → l[i]? = some u → u.ho ≠ h
  · obtain ⟨j, p, h1, h2, h3⟩ := q
    right
    obtain ⟨hj, rfl⟩ := List.getElem?_eq_some_iff.1 h1
    have := startB_eq (startO_at (t := ⟨l, d⟩) hv j hj (fun i hi hij => h3 i _ hij (List.getElem?_eq_getElem hi)) h2)
    exact ⟨j, l[j], h1, idxP_at h1 h2 h3, this.1, this.2⟩
  · left
    have ha : ∀ (i : Nat) u, l[i]? = some u → u.ho ≠ h := by
      intro i
      induction i using Nat.strongRecOn with
      | ind i ih => exact fun u hu e => q ⟨i, u, hu, e, fun k v hk hv => ih k hk v hv⟩
    have := startB_no (startO_no (t := ⟨l, d⟩) hv (h := h) (fun i hi => ha i _ (List.getElem?_eq_getElem hi)))
    exact ⟨idxP_no ha, this.1, this.2⟩
set_option maxHeartbeats 2000000 in
theorem start_any {v : Value} (t : TR) (h : List UInt8) (w : World) (hv : TrR w v t) (hs : smR t.ps) :
    Calls Tryz.prog 21 #[v, .string (bstr h)] w (RetQ w (.tuple #[chV (startC t h), .bool (startB t h)])) := by
  have HV := Lib.hid (fun W (e : Ext w W) => valid25_any t W (hv.ext e) hs)
  obtain ⟨A, n, c, rfl, hr⟩ := hv
  obtain ⟨l, dt⟩ := t
  have hr0 := hr
  obtain ⟨A', n', c', e, hn, hnc, hcm, hel⟩ := hr.at_
  injection e with e1 e2 e3
  subst e1 e2 e3
  have hn' : n = l.length := hn
  subst hn'
  have HEL := Lib.hid hel
  have HRT := Lib.hid hr0
  unfold maxLen at hcm
  clear hel hs hr0 hr hn
  have hw := st_alloc w A l.length c dt h
  obtain ⟨wz, hwz, zz⟩ := hw
  have HI := Lib.hid (fun hv => start_idx (l := l) (d := dt) (h := h) hv)
  obtain ⟨rc, hrc⟩ : ∃ r, startC ⟨l, dt⟩ h = r := ⟨_, rfl⟩
  obtain ⟨rb, hrb⟩ : ∃ r, startB ⟨l, dt⟩ h = r := ⟨_, rfl⟩
  rw [hrc, hrb]
  have HC := Lib.hid hrc
  have HB := Lib.hid hrb
  clear hrc hrb
  go_enter Tryz.func21, Tryz.ntmps21
  go_upto_region 1 with fail
  rw [← hwz]
  clear hwz
  obtain ⟨z0, z1⟩ := zz.t.cells
  have zl := zz.t.lt
  go_wp2_with fail
  refine (HV.out _ zz.ext).mono ?_
  rintro e w2 ⟨rfl, b2⟩
  have Z2 := zz.tr b2
  clear z0 z1 zl zz
  by_cases hv : vdK ⟨l, dt⟩ = 0
  case neg =>
    have hb : (vdK ⟨l, dt⟩ != 0) = true := by simpa using hv
    have HE := Lib.hid (show rc = zeroC ∧ rb = false by have := startB_no (startO_bad (t := ⟨l, dt⟩) (h := h) hv); exact ⟨HC.out.symm.trans this.1, HB.out.symm.trans this.2⟩)
    clear hv
    obtain ⟨q0, q1, q2, q3, q4, q5⟩ := Z2.r.cells
    have f0 := Z2.r.frozen 0
    have f1 := Z2.r.frozen 1
    have f2 := Z2.r.frozen 2
    have f3 := Z2.r.frozen 3
    have f4 := Z2.r.frozen 4
    have f5 := Z2.r.frozen 5
    have fl := Z2.r.lt
    have TZ : ChAt (set6 w2 (w.heap.size + 1 + 1) (.string ⟨#[]⟩) (.int .i64 0) (.int .i64 0) (.int .i64 0) (.int .i64 0) (.int .i64 0)) (w.heap.size + 1 + 1) zeroC := Z2.r.setC zeroC
    have XF := Lib.hid (ext_setC Z2.ext (show w.heap.size ≤ w.heap.size + 1 + 1 by omega) zeroC)
    go_wp2_with fail
    refine bodyPost_ret (v := .tuple #[.agg #[.string ⟨#[]⟩, .int .i64 0, .int .i64 0, .int .i64 0, .int .i64 0, .int .i64 0], .bool false]) ?_ rfl ⟨by rw [HE.out.1, HE.out.2]; rfl, XF.out⟩
    obtain ⟨r0, r1, r2, r3, r4, r5⟩ := TZ.cells0
    clear q0 q1 q2 q3 q4 q5 f0 f1 f2 f3 f4 f5 fl
    simp [results, Tryz.results21, go_sem, r0, r1, r2, r3, r4, r5]
  have hb : (vdK ⟨l, dt⟩ != 0) = false := by simp [hv]
  have HJ := Lib.hid (HI.out hv)
  have hz2 := vdK_zero hv
  have hle : l.length ≤ 2 := hz2.2.1
  clear hz2 HI hv
  obtain ⟨z0, z1⟩ := Z2.t.cells
  have zl := Z2.t.lt
  go_wp2_with fail
  refine (startIndex_any h (w.heap.size + 1) _ (HRT.out.ext Z2.ext) Z2.s).mono ?_
  rintro e w3 ⟨rfl, b3⟩
  have Z3 := Z2.tr b3
  clear z0 z1 zl Z2
  rcases HJ.out with ⟨e1, e2, e3⟩ | ⟨j, p, hp, e1, e2, e3⟩
  · rw [e1]
    have HE := Lib.hid (show rc = zeroC ∧ rb = false from ⟨HC.out.symm.trans e2, HB.out.symm.trans e3⟩)
    clear e1 e2 e3
    obtain ⟨q0, q1, q2, q3, q4, q5⟩ := Z3.r.cells
    have f0 := Z3.r.frozen 0
    have f1 := Z3.r.frozen 1
    have f2 := Z3.r.frozen 2
    have f3 := Z3.r.frozen 3
    have f4 := Z3.r.frozen 4
    have f5 := Z3.r.frozen 5
    have fl := Z3.r.lt
    have TZ : ChAt (set6 w3 (w.heap.size + 1 + 1) (.string ⟨#[]⟩) (.int .i64 0) (.int .i64 0) (.int .i64 0) (.int .i64 0) (.int .i64 0)) (w.heap.size + 1 + 1) zeroC := Z3.r.setC zeroC
    have XF := Lib.hid (ext_setC Z3.ext (show w.heap.size ≤ w.heap.size + 1 + 1 by omega) zeroC)
    go_wp2_with fail
    refine bodyPost_ret (v := .tuple #[.agg #[.string ⟨#[]⟩, .int .i64 0, .int .i64 0, .int .i64 0, .int .i64 0, .int .i64 0], .bool false]) ?_ rfl ⟨by rw [HE.out.1, HE.out.2]; rfl, XF.out⟩
    obtain ⟨r0, r1, r2, r3, r4, r5⟩ := TZ.cells0
    clear q0 q1 q2 q3 q4 q5 f0 f1 f2 f3 f4 f5 fl
    simp [results, Tryz.results21, go_sem, r0, r1, r2, r3, r4, r5]
  · rw [e1]
    have HE := Lib.hid (show rc = chOf p ∧ rb = true from ⟨HC.out.symm.trans e2, HB.out.symm.trans e3⟩)
    clear e1 e2 e3
    obtain ⟨hjl, hjp⟩ := List.getElem?_eq_some_iff.1 hp
    obtain ⟨b, o, rfl, hbl, hc⟩ := HEL.out (by omega)
    obtain ⟨e0, e1, e2, e3, e4⟩ := hc j p hp
    have xw := Z3.ext
    have l0 := (xw.cell (p := ⟨b, o + j * 5, none⟩) hbl).trans e0
    have l1 := (xw.cell (p := ⟨b, o + j * 5 + 1, none⟩) hbl).trans e1
    have l2 := (xw.cell (p := ⟨b, o + j * 5 + 2, none⟩) hbl).trans e2
    have l3 := (xw.cell (p := ⟨b, o + j * 5 + 3, none⟩) hbl).trans e3
    have l4 := (xw.cell (p := ⟨b, o + j * 5 + 4, none⟩) hbl).trans e4
    have hbw : b < w3.heap.size := Nat.lt_of_lt_of_le hbl xw.size
    clear e0 e1 e2 e3 e4 hc hp hjp xw
    obtain ⟨z0, z1⟩ := Z3.t.cells
    have zl := Z3.t.lt
    have z32 := Z3.r.lt
    have wi1 : IntKind.i64.wrap ((j : Int)) = (j : Int) := IntWalk.i64_in _ (by omega)
    have zi1 : (0 : Int) ≤ (j : Int) := by omega
    have li1 : (j : Int) < (l.length : Int) := by omega
    have ti1 : ((j : Int)).toNat = j := by omega
    go_upto_region 7 with fail
    obtain ⟨wp, hwp, ep, TP4⟩ := tp_alloc w3 p
    rw [← hwp]
    clear hwp
    have Z4 := Z3.tr ep
    clear z0 z1 zl z32 l0 l1 l2 l3 l4 Z3
    obtain ⟨p0, p1, p2, p3, p4⟩ := TP4.cells
    have pl := TP4.lt
    obtain ⟨q0, q1, q2, q3, q4, q5⟩ := Z4.r.cells
    have f0 := Z4.r.frozen 0
    have f1 := Z4.r.frozen 1
    have f2 := Z4.r.frozen 2
    have f3 := Z4.r.frozen 3
    have f4 := Z4.r.frozen 4
    have f5 := Z4.r.frozen 5
    have fl := Z4.r.lt
    have TZ : ChAt (set6 wp (w.heap.size + 1 + 1) (.string (bstr p.ho)) (.int .i64 p.key) (.int .i64 1) (.int .i64 p.rights) (.int .i64 p.fr) (.int .i64 p.to)) (w.heap.size + 1 + 1) (chOf p) := Z4.r.setC (chOf p)
    have XF := Lib.hid (ext_setC Z4.ext (show w.heap.size ≤ w.heap.size + 1 + 1 by omega) (chOf p))
    clear Z4 TP4 ep
    go_wp2_with fail
    refine bodyPost_ret (v := .tuple #[chV (chOf p), .bool true]) ?_ rfl ⟨by rw [HE.out.1, HE.out.2], XF.out⟩
    obtain ⟨r0, r1, r2, r3, r4, r5⟩ := TZ.cells
    clear q0 q1 q2 q3 q4 q5 f0 f1 f2 f3 f4 f5 fl p0 p1 p2 p3 p4
    simp only [chOf] at r0 r1 r2 r3 r4 r5
    simp [results, Tryz.results21, go_sem, chV, chOf, r0, r1, r2, r3, r4, r5]
end Go.Proofs.YtkjplpmogfmhkaaGreatDoor

namespace Go.Proofs.YtkjplpmogfmhkaaGreatDoor
open Go.RowKit
set_option linter.unusedVariables false
set_option maxRecDepth 100000

theorem cp_alloc (w : World) (A : Option Addr) (n c : Nat) (d : Int) : ∃ wz, wz = (w.alloc (.cells #[.slice A n c, .int .i64 d] 24)).alloc (.cells #[.slice none 0 0, .int .i64 0] 24) ∧ TrAt wz w.heap.size A n c d ∧ TrAt wz (w.heap.size + 1) none 0 0 0 ∧ Ext w wz := by
  obtain ⟨w1, hw1, e1, T1⟩ := tr_alloc w A n c d
  have s1 : w1.heap.size = w.heap.size + 1 := by rw [hw1]; simp
  rw [← hw1]
  clear hw1
  obtain ⟨w2, hw2, e2, T2⟩ := tr_alloc w1 none 0 0 0
  rw [s1] at T2
  exact ⟨w2, hw2, T1.ext e2, T2, e1.tr e2⟩
set_option maxHeartbeats 1000000 in
theorem copied_any {v : Value} (t : TR) (w : World) (hv : TrR w v t) (hl : t.ps.length ≤ 1000000000000) :
    Calls Tryz.prog 106 #[v] w (LearnR w t) := by
  obtain ⟨A, n, c, rfl, hr⟩ := hv
  obtain ⟨l, dt⟩ := t
  have HRT := Lib.hid hr
  have HL := Lib.hid (show l.length ≤ 2000000000000 by have h2 : l.length ≤ 1000000000000 := hl; omega)
  obtain ⟨wz, hwz, T1, T2, xz⟩ := cp_alloc w A n c dt
  clear hr hl
  go_enter Tryz.func106, Tryz.ntmps106
  go_wp2_with fail
  rw [← hwz]
  clear hwz
  obtain ⟨z0, z1⟩ := T1.cells
  have zl := T1.lt
  go_wp2_with fail
  refine (cloneT_any _ (HRT.out.ext xz) HL.out).mono ?_
  rintro e w2 ⟨b2, A2, n2, c2, rfl, hn2, ow⟩
  have P1 := T1.ext b2
  have P2 := T2.ext b2
  have x2 := xz.tr b2
  clear z0 z1 zl T1 T2
  have F1 : TrAt (w2.setCell ⟨w.heap.size, 0, none⟩ (.slice A2 n2 c2)) w.heap.size A2 n2 c2 dt := P1.setPs
  have G2 : TrAt (w2.setCell ⟨w.heap.size, 0, none⟩ (.slice A2 n2 c2)) (w.heap.size + 1) none 0 0 0 := P2.other (by omega)
  have o1 := ow.poke P1 tp_ne_tr 0 (.slice A2 n2 c2)
  have o2 := o1.poke G2 tp_ne_tr 0 (.slice A2 n2 c2)
  have G3 := G2.setPs (A' := A2) (n' := n2) (c' := c2)
  have o3 := o2.poke G3 tp_ne_tr 1 (.int .i64 dt)
  have G4 := G3.setDt dt
  have XF := Lib.hid (ext_set (ext_set (ext_set x2 (Nat.le_refl _) (i := 0) (v := .slice A2 n2 c2)) (show w.heap.size ≤ w.heap.size + 1 by omega) (i := 0) (v := .slice A2 n2 c2)) (show w.heap.size ≤ w.heap.size + 1 by omega) (i := 1) (v := .int .i64 dt))
  have hzs := xz.size
  have R3 := Lib.hid (o3.safe 0)
  clear hzs
  obtain ⟨z0, z1⟩ := P1.cells
  have f0 := P1.frozen 0
  have f1 := P1.frozen 1
  have zl := P1.lt
  obtain ⟨y0, y1⟩ := P2.cells
  have yf0 := P2.frozen 0
  have yf1 := P2.frozen 1
  have yl := P2.lt
  clear o1 o2 o3 G2 G3 F1 ow
  go_wp2_with fail
  refine bodyPost_ret (v := .agg #[.slice A2 n2 c2, .int .i64 dt]) ?_ rfl ⟨XF.out, A2, n2, c2, rfl, R3.out⟩
  obtain ⟨r0, r1⟩ := G4.cells
  clear z0 z1 f0 f1 zl y0 y1 yf0 yf1 yl
  simp [results, Tryz.results106, go_sem, r0, r1]
end Go.Proofs.YtkjplpmogfmhkaaGreatDoor

namespace Go.Proofs.YtkjplpmogfmhkaaGreatDoor
open Go.RowKit
set_option linter.unusedVariables false
set_option maxRecDepth 100000

structure ExZ (w wr : World) (A : Option Addr) (n c : Nat) (d : Int) (b : CH) (x : TC) : Prop where
  t : TrAt wr w.heap.size A n c d
  b : ChAt wr (w.heap.size + 1) b
  x : TcAt wr (w.heap.size + 1 + 1) x
  ext : Ext w wr
theorem ExZ.tr {w wr wx : World} {A : Option Addr} {n c : Nat} {d : Int} {b : CH} {x : TC} (h : ExZ w wr A n c d b x) (e : Ext wr wx) : ExZ w wx A n c d b x := ⟨h.t.ext e, h.b.ext e, h.x.ext e, h.ext.tr e⟩
theorem ex_alloc (w : World) (A : Option Addr) (n c : Nat) (d : Int) (b : CH) (x : TC) : ∃ wz, wz = ((w.alloc (.cells #[.slice A n c, .int .i64 d] 24)).alloc (.cells #[.string (bstr b.ho), .int .i64 b.key, .int .i64 b.role, .int .i64 b.rights, .int .i64 b.fr, .int .i64 b.to] 28)).alloc (.cells #[.string (bstr x.au), .string (bstr x.ho), .int .i64 x.key, .int .i64 x.role, .int .i64 x.rights, .int .i64 x.fr, .int .i64 x.to, .int .i64 x.e, .int .i64 x.s] 35) ∧ ExZ w wz A n c d b x := by
  obtain ⟨w1, hw1, e1, T1⟩ := tr_alloc w A n c d
  have s1 : w1.heap.size = w.heap.size + 1 := by rw [hw1]; simp
  rw [← hw1]
  clear hw1
  obtain ⟨w2, hw2, e2, T2⟩ := ch_alloc w1 b
  have s2 : w2.heap.size = w.heap.size + 1 + 1 := by rw [hw2]; simp [s1]
  rw [← hw2]
  clear hw2
  obtain ⟨w3, hw3, e3, T3⟩ := tc_alloc w2 x
  rw [s1] at T2
  rw [s2] at T3
  exact ⟨w3, hw3, T1.ext (e2.tr e3), T2.ext e3, T3, (e1.tr e2).tr e3⟩
theorem bstr_nil (l : List UInt8) : ((bstr l).toList == ([] : List UInt8)) = decide (l = []) := by
  rw [bstr_toList, Bool.eq_iff_iff]
  simp
set_option maxHeartbeats 2000000 in
theorem examine_any {v : Value} (t : TR) (b : CH) (x : TC) (w : World) (hv : TrR w v t) (hs : smR t.ps) (hx : smT x) (E : KTab w 1) :
    Calls Tryz.prog 105 #[v, chV b, tcV x] w (RetQ w (.int .i64 (exK t b x))) := by
  have HV := Lib.hid (fun W (e : Ext w W) => valid25_any t W (hv.ext e) hs)
  have HK := Lib.hid (fun W => checkP_any x W hx)
  have HF := Lib.hid (fun W (e : Ext w W) => tverify_any b.key x W hx (E.below e))
  obtain ⟨A, n, c, rfl, hr⟩ := hv
  obtain ⟨l, dt⟩ := t
  obtain ⟨wz, hwz, zz⟩ := ex_alloc w A n c dt b x
  obtain ⟨r, hr2⟩ : ∃ r, exK ⟨l, dt⟩ b x = r := ⟨_, rfl⟩
  rw [hr2]
  have HR := Lib.hid hr2
  clear hr2 hr hs hx
  unfold chV tcV
  go_enter Tryz.func105, Tryz.ntmps105
  go_upto_region 1 with fail
  rw [← hwz]
  clear hwz
  obtain ⟨z0, z1⟩ := zz.t.cells
  have zl := zz.t.lt
  go_wp2_with fail
  refine (HV.out _ zz.ext).mono ?_
  rintro e w2 ⟨rfl, b2⟩
  have Z2 := zz.tr b2
  clear z0 z1 zl zz
  by_cases h1 : vdK ⟨l, dt⟩ = 0
  case neg =>
    have hb : (vdK ⟨l, dt⟩ != 0) = true := by simpa using h1
    have HN := Lib.hid (show r = vdK ⟨l, dt⟩ by rw [← HR.out]; exact exK_vd h1)
    clear h1
    go_wp2_with fail
    go_ret
    exact ⟨by rw [HN.out]; rfl, Z2.ext⟩
  have hb1 : (vdK ⟨l, dt⟩ != 0) = false := by simp [h1]
  obtain ⟨z0, z1, z2, z3, z4, z5⟩ := Z2.b.cells
  have zl := Z2.b.lt
  by_cases h2 : b.ho = []
  · have hh : (bstr b.ho).toList.isEmpty = true := by rw [bstr_toList, h2]; rfl
    have HN := Lib.hid (show r = 23 by rw [← HR.out]; exact exK_st h1 h2)
    clear h1 h2
    go_wp2_with fail
    go_ret
    exact ⟨by rw [HN.out]; rfl, Z2.ext⟩
  have hh : (bstr b.ho).toList.isEmpty = false := by rw [bstr_toList]; simpa using h2
  have H1 := Lib.hid h1
  have H2 := Lib.hid h2
  clear h1 h2
  obtain ⟨p0, p1, p2, p3, p4, p5, p6, p7, p8⟩ := (Z2.x).cells
  have pf0 := (Z2.x).frozen 0
  have pf1 := (Z2.x).frozen 1
  have pf2 := (Z2.x).frozen 2
  have pf3 := (Z2.x).frozen 3
  have pf4 := (Z2.x).frozen 4
  have pf5 := (Z2.x).frozen 5
  have pf6 := (Z2.x).frozen 6
  have pf7 := (Z2.x).frozen 7
  have pf8 := (Z2.x).frozen 8
  have pl := (Z2.x).lt
  go_wp2_with fail
  refine (HK.out _).mono ?_
  rintro e w3 ⟨rfl, b3⟩
  have Z3 := Z2.tr b3
  clear z0 z1 z2 z3 z4 z5 zl
  clear p0 pf0 p1 pf1 p2 pf2 p3 pf3 p4 pf4 p5 pf5 p6 pf6 p7 pf7 p8 pf8 pl
  clear Z2 b2
  by_cases h3 : ckT x = 0
  case neg =>
    have hb : (ckT x != 0) = true := by simpa using h3
    have HN := Lib.hid (show r = ckT x by rw [← HR.out]; exact exK_ck H1.out H2.out h3)
    clear h3
    go_wp2_with fail
    go_ret
    exact ⟨by rw [HN.out]; rfl, Z3.ext⟩
  have hb3 : (ckT x != 0) = false := by simp [h3]
  have H3 := Lib.hid h3
  clear h3
  obtain ⟨z0, z1, z2, z3, z4, z5⟩ := Z3.b.cells
  have zl := Z3.b.lt
  obtain ⟨p0, p1, p2, p3, p4, p5, p6, p7, p8⟩ := (Z3.x).cells
  have pf0 := (Z3.x).frozen 0
  have pf1 := (Z3.x).frozen 1
  have pf2 := (Z3.x).frozen 2
  have pf3 := (Z3.x).frozen 3
  have pf4 := (Z3.x).frozen 4
  have pf5 := (Z3.x).frozen 5
  have pf6 := (Z3.x).frozen 6
  have pf7 := (Z3.x).frozen 7
  have pf8 := (Z3.x).frozen 8
  have pl := (Z3.x).lt
  have HQ := Lib.hid (bstr_eq x.au b.ho)
  by_cases h4 : x.au = b.ho
  case neg =>
    have hs : ((bstr x.au).toList == (bstr b.ho).toList) = false := by rw [HQ.out]; exact decide_eq_false h4
    have hs2 : ((bstr x.au).toList != (bstr b.ho).toList) = true := by unfold bne; rw [hs]; rfl
    have HN := Lib.hid (show r = 65 by rw [← HR.out]; exact exK_au H1.out H2.out H3.out h4)
    clear h4
    go_wp2_with fail
    go_ret
    exact ⟨by rw [HN.out]; rfl, Z3.ext⟩
  have hs : ((bstr x.au).toList == (bstr b.ho).toList) = true := by rw [HQ.out]; exact decide_eq_true h4
  have hs2 : ((bstr x.au).toList != (bstr b.ho).toList) = false := by unfold bne; rw [hs]; rfl
  have H4 := Lib.hid h4
  clear h4
  go_wp2_with fail
  refine (HF.out _ Z3.ext).mono ?_
  rintro e w4 ⟨rfl, b4⟩
  have Z4 := Z3.tr b4
  clear z0 z1 z2 z3 z4 z5 zl
  clear p0 pf0 p1 pf1 p2 pf2 p3 pf3 p4 pf4 p5 pf5 p6 pf6 p7 pf7 p8 pf8 pl
  clear Z3 b3
  obtain ⟨vf, hvf⟩ : ∃ vf, vfB b.key x = vf := ⟨_, rfl⟩
  rw [hvf]
  have H5 := Lib.hid hvf
  clear hvf
  cases vf
  · have HN := Lib.hid (show r = 11 by rw [← HR.out]; exact exK_vf H1.out H2.out H3.out H4.out H5.out)
    go_wp2_with fail
    go_ret
    exact ⟨by rw [HN.out]; rfl, Z4.ext⟩
  obtain ⟨z0, z1, z2, z3, z4, z5⟩ := Z4.b.cells
  have zl := Z4.b.lt
  obtain ⟨p0, p1, p2, p3, p4, p5, p6, p7, p8⟩ := (Z4.x).cells
  have pf0 := (Z4.x).frozen 0
  have pf1 := (Z4.x).frozen 1
  have pf2 := (Z4.x).frozen 2
  have pf3 := (Z4.x).frozen 3
  have pf4 := (Z4.x).frozen 4
  have pf5 := (Z4.x).frozen 5
  have pf6 := (Z4.x).frozen 6
  have pf7 := (Z4.x).frozen 7
  have pf8 := (Z4.x).frozen 8
  have pl := (Z4.x).lt
  obtain ⟨y0, y1⟩ := Z4.t.cells
  have yl := Z4.t.lt
  go_wp2_with fail
  refine (follows_any _ _ _).mono ?_
  rintro e w' ⟨rfl, rfl⟩
  obtain ⟨vf, hvf⟩ : ∃ vf, followB b.role x.role = vf := ⟨_, rfl⟩
  rw [hvf]
  have H6 := Lib.hid hvf
  clear hvf
  cases vf
  · have HN := Lib.hid (show r = 61 by rw [← HR.out]; exact exK_fo H1.out H2.out H3.out H4.out H5.out H6.out)
    go_wp2_with fail
    go_ret
    exact ⟨by rw [HN.out]; rfl, Z4.ext⟩
  by_cases q1 : b.to < dt
  · have d1 : decide (b.to < dt) = true := decide_eq_true q1
    have HN := Lib.hid (show r = 63 by rw [← HR.out]; exact exK_xp H1.out H2.out H3.out H4.out H5.out H6.out (.inl q1))
    clear q1
    go_wp2_with fail
    go_ret
    exact ⟨by rw [HN.out]; rfl, Z4.ext⟩
  have d1 : decide (b.to < dt) = false := decide_eq_false q1
  by_cases q2 : x.to < dt
  · have d2 : decide (x.to < dt) = true := decide_eq_true q2
    have HN := Lib.hid (show r = 63 by rw [← HR.out]; exact exK_xp H1.out H2.out H3.out H4.out H5.out H6.out (.inr q2))
    clear q1 q2
    go_wp2_with fail
    go_ret
    exact ⟨by rw [HN.out]; rfl, Z4.ext⟩
  have d2 : decide (x.to < dt) = false := decide_eq_false q2
  have H7 := Lib.hid (show ¬ (b.to < dt ∨ x.to < dt) from not_or.2 ⟨q1, q2⟩)
  clear q1 q2
  by_cases q1 : b.role = 1
  · have d3 : (b.role == 1) = true := by simp [q1]
    have d4 : (b.role != 1) = false := by simp [q1]
    have HN := Lib.hid (show r = 0 by rw [← HR.out]; exact exK_ok H1.out H2.out H3.out H4.out H5.out H6.out H7.out (fun q => q.1 q1))
    clear q1
    go_wp2_with fail
    go_ret
    exact ⟨by rw [HN.out]; rfl, Z4.ext⟩
  have d3 : (b.role == 1) = false := by simp [q1]
  have d4 : (b.role != 1) = true := by simp [q1]
  by_cases q2 : x.fr < b.fr
  · have d5 : decide (x.fr < b.fr) = true := decide_eq_true q2
    have HN := Lib.hid (show r = 64 by rw [← HR.out]; exact exK_ea H1.out H2.out H3.out H4.out H5.out H6.out H7.out ⟨q1, .inl q2⟩)
    clear q1 q2
    go_wp2_with fail
    go_ret
    exact ⟨by rw [HN.out]; rfl, Z4.ext⟩
  have d5 : decide (x.fr < b.fr) = false := decide_eq_false q2
  by_cases q3 : b.to < x.fr
  · have d6 : decide (b.to < x.fr) = true := decide_eq_true q3
    have HN := Lib.hid (show r = 64 by rw [← HR.out]; exact exK_ea H1.out H2.out H3.out H4.out H5.out H6.out H7.out ⟨q1, .inr q3⟩)
    clear q1 q2 q3
    go_wp2_with fail
    go_ret
    exact ⟨by rw [HN.out]; rfl, Z4.ext⟩
  have d6 : decide (b.to < x.fr) = false := decide_eq_false q3
  have HN := Lib.hid (show r = 0 by rw [← HR.out]; exact exK_ok H1.out H2.out H3.out H4.out H5.out H6.out H7.out (fun q => q.2.elim q2 q3))
  clear q1 q2 q3
  go_wp2_with fail
  go_ret
  exact ⟨by rw [HN.out]; rfl, Z4.ext⟩
end Go.Proofs.YtkjplpmogfmhkaaGreatDoor

namespace Go.Proofs.YtkjplpmogfmhkaaGreatDoor
open Go.RowKit
set_option linter.unusedVariables false
set_option maxRecDepth 100000

set_option maxHeartbeats 8000000 in
theorem refused_any {v : Value} (t : TR) (b : CH) (x : TC) (w : World) (hv : TrR w v t) (hs : smR t.ps) (hx : smT x) (E : KTab w 0) :
    Calls Tryz.prog 108 #[v, chV b, tcV x] w (RetQ w (.int .i64 (exK t b x))) := by
  have HV := Lib.hid (fun W (e : Ext w W) => refvalid25_any t W (hv.ext e) hs)
  have HK := Lib.hid (fun W => checkR_any x W hx)
  have HF := Lib.hid (fun W (e : Ext w W) => reftverify_any b.key x W hx (E.below e))
  obtain ⟨A, n, c, rfl, hr⟩ := hv
  obtain ⟨l, dt⟩ := t
  obtain ⟨wz, hwz, zz⟩ := ex_alloc w A n c dt b x
  obtain ⟨r, hr2⟩ : ∃ r, exK ⟨l, dt⟩ b x = r := ⟨_, rfl⟩
  rw [hr2]
  have HR := Lib.hid hr2
  clear hr2 hr hs hx
  unfold chV tcV
  go_enter Tryz.func108, Tryz.ntmps108
  go_upto_region 1 with fail
  rw [← hwz]
  clear hwz
  obtain ⟨z0, z1⟩ := zz.t.cells
  have zl := zz.t.lt
  go_wp2_with fail
  refine (HV.out _ zz.ext).mono ?_
  rintro e w2 ⟨rfl, b2⟩
  have Z2 := zz.tr b2
  clear z0 z1 zl zz
  by_cases h1 : vdK ⟨l, dt⟩ = 0
  case neg =>
    have hb : (vdK ⟨l, dt⟩ != 0) = true := by simpa using h1
    have HN := Lib.hid (show r = vdK ⟨l, dt⟩ by rw [← HR.out]; exact exK_vd h1)
    clear h1
    go_wp2_with fail
    go_ret
    exact ⟨by rw [HN.out]; rfl, Z2.ext⟩
  have hb1 : (vdK ⟨l, dt⟩ != 0) = false := by simp [h1]
  obtain ⟨z0, z1, z2, z3, z4, z5⟩ := Z2.b.cells
  have zl := Z2.b.lt
  by_cases h2 : b.ho = []
  · have hh : (bstr b.ho).toList.isEmpty = true := by rw [bstr_toList, h2]; rfl
    have HN := Lib.hid (show r = 23 by rw [← HR.out]; exact exK_st h1 h2)
    clear h1 h2
    go_wp2_with fail
    go_ret
    exact ⟨by rw [HN.out]; rfl, Z2.ext⟩
  have hh : (bstr b.ho).toList.isEmpty = false := by rw [bstr_toList]; simpa using h2
  have H1 := Lib.hid h1
  have H2 := Lib.hid h2
  clear h1 h2
  obtain ⟨p0, p1, p2, p3, p4, p5, p6, p7, p8⟩ := (Z2.x).cells
  have pf0 := (Z2.x).frozen 0
  have pf1 := (Z2.x).frozen 1
  have pf2 := (Z2.x).frozen 2
  have pf3 := (Z2.x).frozen 3
  have pf4 := (Z2.x).frozen 4
  have pf5 := (Z2.x).frozen 5
  have pf6 := (Z2.x).frozen 6
  have pf7 := (Z2.x).frozen 7
  have pf8 := (Z2.x).frozen 8
  have pl := (Z2.x).lt
  go_wp2_with fail
  refine (HK.out _).mono ?_
  rintro e w3 ⟨rfl, b3⟩
  have Z3 := Z2.tr b3
  clear z0 z1 z2 z3 z4 z5 zl
  clear p0 pf0 p1 pf1 p2 pf2 p3 pf3 p4 pf4 p5 pf5 p6 pf6 p7 pf7 p8 pf8 pl
  clear Z2 b2
  by_cases h3 : ckT x = 0
  case neg =>
    have hb : (ckT x != 0) = true := by simpa using h3
    have HN := Lib.hid (show r = ckT x by rw [← HR.out]; exact exK_ck H1.out H2.out h3)
    clear h3
    go_wp2_with fail
    go_ret
    exact ⟨by rw [HN.out]; rfl, Z3.ext⟩
  have hb3 : (ckT x != 0) = false := by simp [h3]
  have H3 := Lib.hid h3
  clear h3
  by_cases qb : b.role = 1
  · by_cases q4 : x.role = 4
    · have d1 : (b.role == 1) = true := by simp [qb]
      have d2 : (b.role == 2) = false := by simp [qb]
      have d3 : (b.role == 3) = false := by simp [qb]
      have d4 : (x.role == 4) = true := by simp [q4]
      have d5 : (x.role != 4) = false := by simp [q4]
      have d6 : (b.role != 1) = false := by simp [qb]
      have HB1 := Lib.hid qb
      have H6 := Lib.hid (show followB b.role x.role = false by unfold followB; rw [qb]; simp [q4])
      clear q4 qb
      obtain ⟨z0, z1, z2, z3, z4, z5⟩ := Z3.b.cells
      have zl := Z3.b.lt
      obtain ⟨p0, p1, p2, p3, p4, p5, p6, p7, p8⟩ := (Z3.x).cells
      have pf0 := (Z3.x).frozen 0
      have pf1 := (Z3.x).frozen 1
      have pf2 := (Z3.x).frozen 2
      have pf3 := (Z3.x).frozen 3
      have pf4 := (Z3.x).frozen 4
      have pf5 := (Z3.x).frozen 5
      have pf6 := (Z3.x).frozen 6
      have pf7 := (Z3.x).frozen 7
      have pf8 := (Z3.x).frozen 8
      have pl := (Z3.x).lt
      have HQ := Lib.hid (bstr_eq x.au b.ho)
      by_cases h4 : x.au = b.ho
      case neg =>
        have hs : ((bstr x.au).toList == (bstr b.ho).toList) = false := by rw [HQ.out]; exact decide_eq_false h4
        have hs2 : ((bstr x.au).toList != (bstr b.ho).toList) = true := by unfold bne; rw [hs]; rfl
        have HN := Lib.hid (show r = 65 by rw [← HR.out]; exact exK_au H1.out H2.out H3.out h4)
        clear h4
        go_wp2_with fail
        go_ret
        exact ⟨by rw [HN.out]; rfl, Z3.ext⟩
      have hs : ((bstr x.au).toList == (bstr b.ho).toList) = true := by rw [HQ.out]; exact decide_eq_true h4
      have hs2 : ((bstr x.au).toList != (bstr b.ho).toList) = false := by unfold bne; rw [hs]; rfl
      have H4 := Lib.hid h4
      clear h4
      go_wp2_with fail
      refine (HF.out _ Z3.ext).mono ?_
      rintro e w4 ⟨rfl, b4⟩
      have Z4 := Z3.tr b4
      clear z0 z1 z2 z3 z4 z5 zl
      clear p0 pf0 p1 pf1 p2 pf2 p3 pf3 p4 pf4 p5 pf5 p6 pf6 p7 pf7 p8 pf8 pl
      clear Z3 b3
      obtain ⟨vf, hvf⟩ : ∃ vf, vfB b.key x = vf := ⟨_, rfl⟩
      rw [hvf]
      have H5 := Lib.hid hvf
      clear hvf
      cases vf
      · have HN := Lib.hid (show r = 11 by rw [← HR.out]; exact exK_vf H1.out H2.out H3.out H4.out H5.out)
        go_wp2_with fail
        go_ret
        exact ⟨by rw [HN.out]; rfl, Z4.ext⟩
      obtain ⟨z0, z1, z2, z3, z4, z5⟩ := Z4.b.cells
      have zl := Z4.b.lt
      obtain ⟨p0, p1, p2, p3, p4, p5, p6, p7, p8⟩ := (Z4.x).cells
      have pf0 := (Z4.x).frozen 0
      have pf1 := (Z4.x).frozen 1
      have pf2 := (Z4.x).frozen 2
      have pf3 := (Z4.x).frozen 3
      have pf4 := (Z4.x).frozen 4
      have pf5 := (Z4.x).frozen 5
      have pf6 := (Z4.x).frozen 6
      have pf7 := (Z4.x).frozen 7
      have pf8 := (Z4.x).frozen 8
      have pl := (Z4.x).lt
      obtain ⟨y0, y1⟩ := Z4.t.cells
      have yl := Z4.t.lt
      have HN := Lib.hid (show r = 61 by rw [← HR.out]; exact exK_fo H1.out H2.out H3.out H4.out H5.out H6.out)
      go_wp2_with fail
      go_ret
      exact ⟨by rw [HN.out]; rfl, Z4.ext⟩
    · have d1 : (b.role == 1) = true := by simp [qb]
      have d2 : (b.role == 2) = false := by simp [qb]
      have d3 : (b.role == 3) = false := by simp [qb]
      have d4 : (x.role == 4) = false := by simp [q4]
      have d5 : (x.role != 4) = true := by simp [q4]
      have d6 : (b.role != 1) = false := by simp [qb]
      have HB1 := Lib.hid qb
      have H6 := Lib.hid (show followB b.role x.role = true by unfold followB; rw [qb]; simp [q4])
      clear q4 qb
      obtain ⟨z0, z1, z2, z3, z4, z5⟩ := Z3.b.cells
      have zl := Z3.b.lt
      obtain ⟨p0, p1, p2, p3, p4, p5, p6, p7, p8⟩ := (Z3.x).cells
      have pf0 := (Z3.x).frozen 0
      have pf1 := (Z3.x).frozen 1
      have pf2 := (Z3.x).frozen 2
      have pf3 := (Z3.x).frozen 3
      have pf4 := (Z3.x).frozen 4
      have pf5 := (Z3.x).frozen 5
      have pf6 := (Z3.x).frozen 6
      have pf7 := (Z3.x).frozen 7
      have pf8 := (Z3.x).frozen 8
      have pl := (Z3.x).lt
      have HQ := Lib.hid (bstr_eq x.au b.ho)
      by_cases h4 : x.au = b.ho
      case neg =>
        have hs : ((bstr x.au).toList == (bstr b.ho).toList) = false := by rw [HQ.out]; exact decide_eq_false h4
        have hs2 : ((bstr x.au).toList != (bstr b.ho).toList) = true := by unfold bne; rw [hs]; rfl
        have HN := Lib.hid (show r = 65 by rw [← HR.out]; exact exK_au H1.out H2.out H3.out h4)
        clear h4
        go_wp2_with fail
        go_ret
        exact ⟨by rw [HN.out]; rfl, Z3.ext⟩
      have hs : ((bstr x.au).toList == (bstr b.ho).toList) = true := by rw [HQ.out]; exact decide_eq_true h4
      have hs2 : ((bstr x.au).toList != (bstr b.ho).toList) = false := by unfold bne; rw [hs]; rfl
      have H4 := Lib.hid h4
      clear h4
      go_wp2_with fail
      refine (HF.out _ Z3.ext).mono ?_
      rintro e w4 ⟨rfl, b4⟩
      have Z4 := Z3.tr b4
      clear z0 z1 z2 z3 z4 z5 zl
      clear p0 pf0 p1 pf1 p2 pf2 p3 pf3 p4 pf4 p5 pf5 p6 pf6 p7 pf7 p8 pf8 pl
      clear Z3 b3
      obtain ⟨vf, hvf⟩ : ∃ vf, vfB b.key x = vf := ⟨_, rfl⟩
      rw [hvf]
      have H5 := Lib.hid hvf
      clear hvf
      cases vf
      · have HN := Lib.hid (show r = 11 by rw [← HR.out]; exact exK_vf H1.out H2.out H3.out H4.out H5.out)
        go_wp2_with fail
        go_ret
        exact ⟨by rw [HN.out]; rfl, Z4.ext⟩
      obtain ⟨z0, z1, z2, z3, z4, z5⟩ := Z4.b.cells
      have zl := Z4.b.lt
      obtain ⟨p0, p1, p2, p3, p4, p5, p6, p7, p8⟩ := (Z4.x).cells
      have pf0 := (Z4.x).frozen 0
      have pf1 := (Z4.x).frozen 1
      have pf2 := (Z4.x).frozen 2
      have pf3 := (Z4.x).frozen 3
      have pf4 := (Z4.x).frozen 4
      have pf5 := (Z4.x).frozen 5
      have pf6 := (Z4.x).frozen 6
      have pf7 := (Z4.x).frozen 7
      have pf8 := (Z4.x).frozen 8
      have pl := (Z4.x).lt
      obtain ⟨y0, y1⟩ := Z4.t.cells
      have yl := Z4.t.lt
      by_cases q1 : b.to < dt
      · have d7 : decide (b.to < dt) = true := decide_eq_true q1
        have HN := Lib.hid (show r = 63 by rw [← HR.out]; exact exK_xp H1.out H2.out H3.out H4.out H5.out H6.out (.inl q1))
        clear q1
        go_wp2_with fail
        go_ret
        exact ⟨by rw [HN.out]; rfl, Z4.ext⟩
      have d7 : decide (b.to < dt) = false := decide_eq_false q1
      by_cases q2 : x.to < dt
      · have d8 : decide (x.to < dt) = true := decide_eq_true q2
        have HN := Lib.hid (show r = 63 by rw [← HR.out]; exact exK_xp H1.out H2.out H3.out H4.out H5.out H6.out (.inr q2))
        clear q1 q2
        go_wp2_with fail
        go_ret
        exact ⟨by rw [HN.out]; rfl, Z4.ext⟩
      have d8 : decide (x.to < dt) = false := decide_eq_false q2
      have H7 := Lib.hid (show ¬ (b.to < dt ∨ x.to < dt) from not_or.2 ⟨q1, q2⟩)
      clear q1 q2
      have HN := Lib.hid (show r = 0 by rw [← HR.out]; exact exK_ok H1.out H2.out H3.out H4.out H5.out H6.out H7.out (fun q => q.1 HB1.out))
      go_wp2_with fail
      go_ret
      exact ⟨by rw [HN.out]; rfl, Z4.ext⟩
  have qb1 := qb
  clear qb
  by_cases qb : b.role = 2
  · by_cases q4 : x.role = 4
    · have d1 : (b.role == 1) = false := by simp [qb]
      have d2 : (b.role == 2) = true := by simp [qb]
      have d3 : (b.role == 3) = false := by simp [qb]
      have d4 : (x.role == 4) = true := by simp [q4]
      have d5 : (x.role != 4) = false := by simp [q4]
      have d6 : (b.role != 1) = true := by simp [qb]
      have HB1 := Lib.hid (show b.role ≠ 1 by omega)
      have H6 := Lib.hid (show followB b.role x.role = true by unfold followB; rw [qb]; simp [q4])
      clear q4 qb
      obtain ⟨z0, z1, z2, z3, z4, z5⟩ := Z3.b.cells
      have zl := Z3.b.lt
      obtain ⟨p0, p1, p2, p3, p4, p5, p6, p7, p8⟩ := (Z3.x).cells
      have pf0 := (Z3.x).frozen 0
      have pf1 := (Z3.x).frozen 1
      have pf2 := (Z3.x).frozen 2
      have pf3 := (Z3.x).frozen 3
      have pf4 := (Z3.x).frozen 4
      have pf5 := (Z3.x).frozen 5
      have pf6 := (Z3.x).frozen 6
      have pf7 := (Z3.x).frozen 7
      have pf8 := (Z3.x).frozen 8
      have pl := (Z3.x).lt
      have HQ := Lib.hid (bstr_eq x.au b.ho)
      by_cases h4 : x.au = b.ho
      case neg =>
        have hs : ((bstr x.au).toList == (bstr b.ho).toList) = false := by rw [HQ.out]; exact decide_eq_false h4
        have hs2 : ((bstr x.au).toList != (bstr b.ho).toList) = true := by unfold bne; rw [hs]; rfl
        have HN := Lib.hid (show r = 65 by rw [← HR.out]; exact exK_au H1.out H2.out H3.out h4)
        clear h4
        go_wp2_with fail
        go_ret
        exact ⟨by rw [HN.out]; rfl, Z3.ext⟩
      have hs : ((bstr x.au).toList == (bstr b.ho).toList) = true := by rw [HQ.out]; exact decide_eq_true h4
      have hs2 : ((bstr x.au).toList != (bstr b.ho).toList) = false := by unfold bne; rw [hs]; rfl
      have H4 := Lib.hid h4
      clear h4
      go_wp2_with fail
      refine (HF.out _ Z3.ext).mono ?_
      rintro e w4 ⟨rfl, b4⟩
      have Z4 := Z3.tr b4
      clear z0 z1 z2 z3 z4 z5 zl
      clear p0 pf0 p1 pf1 p2 pf2 p3 pf3 p4 pf4 p5 pf5 p6 pf6 p7 pf7 p8 pf8 pl
      clear Z3 b3
      obtain ⟨vf, hvf⟩ : ∃ vf, vfB b.key x = vf := ⟨_, rfl⟩
      rw [hvf]
      have H5 := Lib.hid hvf
      clear hvf
      cases vf
      · have HN := Lib.hid (show r = 11 by rw [← HR.out]; exact exK_vf H1.out H2.out H3.out H4.out H5.out)
        go_wp2_with fail
        go_ret
        exact ⟨by rw [HN.out]; rfl, Z4.ext⟩
      obtain ⟨z0, z1, z2, z3, z4, z5⟩ := Z4.b.cells
      have zl := Z4.b.lt
      obtain ⟨p0, p1, p2, p3, p4, p5, p6, p7, p8⟩ := (Z4.x).cells
      have pf0 := (Z4.x).frozen 0
      have pf1 := (Z4.x).frozen 1
      have pf2 := (Z4.x).frozen 2
      have pf3 := (Z4.x).frozen 3
      have pf4 := (Z4.x).frozen 4
      have pf5 := (Z4.x).frozen 5
      have pf6 := (Z4.x).frozen 6
      have pf7 := (Z4.x).frozen 7
      have pf8 := (Z4.x).frozen 8
      have pl := (Z4.x).lt
      obtain ⟨y0, y1⟩ := Z4.t.cells
      have yl := Z4.t.lt
      by_cases q1 : b.to < dt
      · have d7 : decide (b.to < dt) = true := decide_eq_true q1
        have HN := Lib.hid (show r = 63 by rw [← HR.out]; exact exK_xp H1.out H2.out H3.out H4.out H5.out H6.out (.inl q1))
        clear q1
        go_wp2_with fail
        go_ret
        exact ⟨by rw [HN.out]; rfl, Z4.ext⟩
      have d7 : decide (b.to < dt) = false := decide_eq_false q1
      by_cases q2 : x.to < dt
      · have d8 : decide (x.to < dt) = true := decide_eq_true q2
        have HN := Lib.hid (show r = 63 by rw [← HR.out]; exact exK_xp H1.out H2.out H3.out H4.out H5.out H6.out (.inr q2))
        clear q1 q2
        go_wp2_with fail
        go_ret
        exact ⟨by rw [HN.out]; rfl, Z4.ext⟩
      have d8 : decide (x.to < dt) = false := decide_eq_false q2
      have H7 := Lib.hid (show ¬ (b.to < dt ∨ x.to < dt) from not_or.2 ⟨q1, q2⟩)
      clear q1 q2
      by_cases q2 : x.fr < b.fr
      · have d9 : decide (x.fr < b.fr) = true := decide_eq_true q2
        have HN := Lib.hid (show r = 64 by rw [← HR.out]; exact exK_ea H1.out H2.out H3.out H4.out H5.out H6.out H7.out ⟨HB1.out, .inl q2⟩)
        clear q2
        go_wp2_with fail
        go_ret
        exact ⟨by rw [HN.out]; rfl, Z4.ext⟩
      have d9 : decide (x.fr < b.fr) = false := decide_eq_false q2
      by_cases q3 : b.to < x.fr
      · have d10 : decide (b.to < x.fr) = true := decide_eq_true q3
        have HN := Lib.hid (show r = 64 by rw [← HR.out]; exact exK_ea H1.out H2.out H3.out H4.out H5.out H6.out H7.out ⟨HB1.out, .inr q3⟩)
        clear q2 q3
        go_wp2_with fail
        go_ret
        exact ⟨by rw [HN.out]; rfl, Z4.ext⟩
      have d10 : decide (b.to < x.fr) = false := decide_eq_false q3
      have HN := Lib.hid (show r = 0 by rw [← HR.out]; exact exK_ok H1.out H2.out H3.out H4.out H5.out H6.out H7.out (fun q => q.2.elim q2 q3))
      clear q2 q3
      go_wp2_with fail
      go_ret
      exact ⟨by rw [HN.out]; rfl, Z4.ext⟩
    · have d1 : (b.role == 1) = false := by simp [qb]
      have d2 : (b.role == 2) = true := by simp [qb]
      have d3 : (b.role == 3) = false := by simp [qb]
      have d4 : (x.role == 4) = false := by simp [q4]
      have d5 : (x.role != 4) = true := by simp [q4]
      have d6 : (b.role != 1) = true := by simp [qb]
      have HB1 := Lib.hid (show b.role ≠ 1 by omega)
      have H6 := Lib.hid (show followB b.role x.role = false by unfold followB; rw [qb]; simp [q4])
      clear q4 qb
      obtain ⟨z0, z1, z2, z3, z4, z5⟩ := Z3.b.cells
      have zl := Z3.b.lt
      obtain ⟨p0, p1, p2, p3, p4, p5, p6, p7, p8⟩ := (Z3.x).cells
      have pf0 := (Z3.x).frozen 0
      have pf1 := (Z3.x).frozen 1
      have pf2 := (Z3.x).frozen 2
      have pf3 := (Z3.x).frozen 3
      have pf4 := (Z3.x).frozen 4
      have pf5 := (Z3.x).frozen 5
      have pf6 := (Z3.x).frozen 6
      have pf7 := (Z3.x).frozen 7
      have pf8 := (Z3.x).frozen 8
      have pl := (Z3.x).lt
      have HQ := Lib.hid (bstr_eq x.au b.ho)
      by_cases h4 : x.au = b.ho
      case neg =>
        have hs : ((bstr x.au).toList == (bstr b.ho).toList) = false := by rw [HQ.out]; exact decide_eq_false h4
        have hs2 : ((bstr x.au).toList != (bstr b.ho).toList) = true := by unfold bne; rw [hs]; rfl
        have HN := Lib.hid (show r = 65 by rw [← HR.out]; exact exK_au H1.out H2.out H3.out h4)
        clear h4
        go_wp2_with fail
        go_ret
        exact ⟨by rw [HN.out]; rfl, Z3.ext⟩
      have hs : ((bstr x.au).toList == (bstr b.ho).toList) = true := by rw [HQ.out]; exact decide_eq_true h4
      have hs2 : ((bstr x.au).toList != (bstr b.ho).toList) = false := by unfold bne; rw [hs]; rfl
      have H4 := Lib.hid h4
      clear h4
      go_wp2_with fail
      refine (HF.out _ Z3.ext).mono ?_
      rintro e w4 ⟨rfl, b4⟩
      have Z4 := Z3.tr b4
      clear z0 z1 z2 z3 z4 z5 zl
      clear p0 pf0 p1 pf1 p2 pf2 p3 pf3 p4 pf4 p5 pf5 p6 pf6 p7 pf7 p8 pf8 pl
      clear Z3 b3
      obtain ⟨vf, hvf⟩ : ∃ vf, vfB b.key x = vf := ⟨_, rfl⟩
      rw [hvf]
      have H5 := Lib.hid hvf
      clear hvf
      cases vf
      · have HN := Lib.hid (show r = 11 by rw [← HR.out]; exact exK_vf H1.out H2.out H3.out H4.out H5.out)
        go_wp2_with fail
        go_ret
        exact ⟨by rw [HN.out]; rfl, Z4.ext⟩
      obtain ⟨z0, z1, z2, z3, z4, z5⟩ := Z4.b.cells
      have zl := Z4.b.lt
      obtain ⟨p0, p1, p2, p3, p4, p5, p6, p7, p8⟩ := (Z4.x).cells
      have pf0 := (Z4.x).frozen 0
      have pf1 := (Z4.x).frozen 1
      have pf2 := (Z4.x).frozen 2
      have pf3 := (Z4.x).frozen 3
      have pf4 := (Z4.x).frozen 4
      have pf5 := (Z4.x).frozen 5
      have pf6 := (Z4.x).frozen 6
      have pf7 := (Z4.x).frozen 7
      have pf8 := (Z4.x).frozen 8
      have pl := (Z4.x).lt
      obtain ⟨y0, y1⟩ := Z4.t.cells
      have yl := Z4.t.lt
      have HN := Lib.hid (show r = 61 by rw [← HR.out]; exact exK_fo H1.out H2.out H3.out H4.out H5.out H6.out)
      go_wp2_with fail
      go_ret
      exact ⟨by rw [HN.out]; rfl, Z4.ext⟩
  have qb2 := qb
  clear qb
  by_cases qb : b.role = 3
  · by_cases q4 : x.role = 4
    · have d1 : (b.role == 1) = false := by simp [qb]
      have d2 : (b.role == 2) = false := by simp [qb]
      have d3 : (b.role == 3) = true := by simp [qb]
      have d4 : (x.role == 4) = true := by simp [q4]
      have d5 : (x.role != 4) = false := by simp [q4]
      have d6 : (b.role != 1) = true := by simp [qb]
      have HB1 := Lib.hid (show b.role ≠ 1 by omega)
      have H6 := Lib.hid (show followB b.role x.role = true by unfold followB; rw [qb]; simp [q4])
      clear q4 qb
      obtain ⟨z0, z1, z2, z3, z4, z5⟩ := Z3.b.cells
      have zl := Z3.b.lt
      obtain ⟨p0, p1, p2, p3, p4, p5, p6, p7, p8⟩ := (Z3.x).cells
      have pf0 := (Z3.x).frozen 0
      have pf1 := (Z3.x).frozen 1
      have pf2 := (Z3.x).frozen 2
      have pf3 := (Z3.x).frozen 3
      have pf4 := (Z3.x).frozen 4
      have pf5 := (Z3.x).frozen 5
      have pf6 := (Z3.x).frozen 6
      have pf7 := (Z3.x).frozen 7
      have pf8 := (Z3.x).frozen 8
      have pl := (Z3.x).lt
      have HQ := Lib.hid (bstr_eq x.au b.ho)
      by_cases h4 : x.au = b.ho
      case neg =>
        have hs : ((bstr x.au).toList == (bstr b.ho).toList) = false := by rw [HQ.out]; exact decide_eq_false h4
        have hs2 : ((bstr x.au).toList != (bstr b.ho).toList) = true := by unfold bne; rw [hs]; rfl
        have HN := Lib.hid (show r = 65 by rw [← HR.out]; exact exK_au H1.out H2.out H3.out h4)
        clear h4
        go_wp2_with fail
        go_ret
        exact ⟨by rw [HN.out]; rfl, Z3.ext⟩
      have hs : ((bstr x.au).toList == (bstr b.ho).toList) = true := by rw [HQ.out]; exact decide_eq_true h4
      have hs2 : ((bstr x.au).toList != (bstr b.ho).toList) = false := by unfold bne; rw [hs]; rfl
      have H4 := Lib.hid h4
      clear h4
      go_wp2_with fail
      refine (HF.out _ Z3.ext).mono ?_
      rintro e w4 ⟨rfl, b4⟩
      have Z4 := Z3.tr b4
      clear z0 z1 z2 z3 z4 z5 zl
      clear p0 pf0 p1 pf1 p2 pf2 p3 pf3 p4 pf4 p5 pf5 p6 pf6 p7 pf7 p8 pf8 pl
      clear Z3 b3
      obtain ⟨vf, hvf⟩ : ∃ vf, vfB b.key x = vf := ⟨_, rfl⟩
      rw [hvf]
      have H5 := Lib.hid hvf
      clear hvf
      cases vf
      · have HN := Lib.hid (show r = 11 by rw [← HR.out]; exact exK_vf H1.out H2.out H3.out H4.out H5.out)
        go_wp2_with fail
        go_ret
        exact ⟨by rw [HN.out]; rfl, Z4.ext⟩
      obtain ⟨z0, z1, z2, z3, z4, z5⟩ := Z4.b.cells
      have zl := Z4.b.lt
      obtain ⟨p0, p1, p2, p3, p4, p5, p6, p7, p8⟩ := (Z4.x).cells
      have pf0 := (Z4.x).frozen 0
      have pf1 := (Z4.x).frozen 1
      have pf2 := (Z4.x).frozen 2
      have pf3 := (Z4.x).frozen 3
      have pf4 := (Z4.x).frozen 4
      have pf5 := (Z4.x).frozen 5
      have pf6 := (Z4.x).frozen 6
      have pf7 := (Z4.x).frozen 7
      have pf8 := (Z4.x).frozen 8
      have pl := (Z4.x).lt
      obtain ⟨y0, y1⟩ := Z4.t.cells
      have yl := Z4.t.lt
      by_cases q1 : b.to < dt
      · have d7 : decide (b.to < dt) = true := decide_eq_true q1
        have HN := Lib.hid (show r = 63 by rw [← HR.out]; exact exK_xp H1.out H2.out H3.out H4.out H5.out H6.out (.inl q1))
        clear q1
        go_wp2_with fail
        go_ret
        exact ⟨by rw [HN.out]; rfl, Z4.ext⟩
      have d7 : decide (b.to < dt) = false := decide_eq_false q1
      by_cases q2 : x.to < dt
      · have d8 : decide (x.to < dt) = true := decide_eq_true q2
        have HN := Lib.hid (show r = 63 by rw [← HR.out]; exact exK_xp H1.out H2.out H3.out H4.out H5.out H6.out (.inr q2))
        clear q1 q2
        go_wp2_with fail
        go_ret
        exact ⟨by rw [HN.out]; rfl, Z4.ext⟩
      have d8 : decide (x.to < dt) = false := decide_eq_false q2
      have H7 := Lib.hid (show ¬ (b.to < dt ∨ x.to < dt) from not_or.2 ⟨q1, q2⟩)
      clear q1 q2
      by_cases q2 : x.fr < b.fr
      · have d9 : decide (x.fr < b.fr) = true := decide_eq_true q2
        have HN := Lib.hid (show r = 64 by rw [← HR.out]; exact exK_ea H1.out H2.out H3.out H4.out H5.out H6.out H7.out ⟨HB1.out, .inl q2⟩)
        clear q2
        go_wp2_with fail
        go_ret
        exact ⟨by rw [HN.out]; rfl, Z4.ext⟩
      have d9 : decide (x.fr < b.fr) = false := decide_eq_false q2
      by_cases q3 : b.to < x.fr
      · have d10 : decide (b.to < x.fr) = true := decide_eq_true q3
        have HN := Lib.hid (show r = 64 by rw [← HR.out]; exact exK_ea H1.out H2.out H3.out H4.out H5.out H6.out H7.out ⟨HB1.out, .inr q3⟩)
        clear q2 q3
        go_wp2_with fail
        go_ret
        exact ⟨by rw [HN.out]; rfl, Z4.ext⟩
      have d10 : decide (b.to < x.fr) = false := decide_eq_false q3
      have HN := Lib.hid (show r = 0 by rw [← HR.out]; exact exK_ok H1.out H2.out H3.out H4.out H5.out H6.out H7.out (fun q => q.2.elim q2 q3))
      clear q2 q3
      go_wp2_with fail
      go_ret
      exact ⟨by rw [HN.out]; rfl, Z4.ext⟩
    · have d1 : (b.role == 1) = false := by simp [qb]
      have d2 : (b.role == 2) = false := by simp [qb]
      have d3 : (b.role == 3) = true := by simp [qb]
      have d4 : (x.role == 4) = false := by simp [q4]
      have d5 : (x.role != 4) = true := by simp [q4]
      have d6 : (b.role != 1) = true := by simp [qb]
      have HB1 := Lib.hid (show b.role ≠ 1 by omega)
      have H6 := Lib.hid (show followB b.role x.role = false by unfold followB; rw [qb]; simp [q4])
      clear q4 qb
      obtain ⟨z0, z1, z2, z3, z4, z5⟩ := Z3.b.cells
      have zl := Z3.b.lt
      obtain ⟨p0, p1, p2, p3, p4, p5, p6, p7, p8⟩ := (Z3.x).cells
      have pf0 := (Z3.x).frozen 0
      have pf1 := (Z3.x).frozen 1
      have pf2 := (Z3.x).frozen 2
      have pf3 := (Z3.x).frozen 3
      have pf4 := (Z3.x).frozen 4
      have pf5 := (Z3.x).frozen 5
      have pf6 := (Z3.x).frozen 6
      have pf7 := (Z3.x).frozen 7
      have pf8 := (Z3.x).frozen 8
      have pl := (Z3.x).lt
      have HQ := Lib.hid (bstr_eq x.au b.ho)
      by_cases h4 : x.au = b.ho
      case neg =>
        have hs : ((bstr x.au).toList == (bstr b.ho).toList) = false := by rw [HQ.out]; exact decide_eq_false h4
        have hs2 : ((bstr x.au).toList != (bstr b.ho).toList) = true := by unfold bne; rw [hs]; rfl
        have HN := Lib.hid (show r = 65 by rw [← HR.out]; exact exK_au H1.out H2.out H3.out h4)
        clear h4
        go_wp2_with fail
        go_ret
        exact ⟨by rw [HN.out]; rfl, Z3.ext⟩
      have hs : ((bstr x.au).toList == (bstr b.ho).toList) = true := by rw [HQ.out]; exact decide_eq_true h4
      have hs2 : ((bstr x.au).toList != (bstr b.ho).toList) = false := by unfold bne; rw [hs]; rfl
      have H4 := Lib.hid h4
      clear h4
      go_wp2_with fail
      refine (HF.out _ Z3.ext).mono ?_
      rintro e w4 ⟨rfl, b4⟩
      have Z4 := Z3.tr b4
      clear z0 z1 z2 z3 z4 z5 zl
      clear p0 pf0 p1 pf1 p2 pf2 p3 pf3 p4 pf4 p5 pf5 p6 pf6 p7 pf7 p8 pf8 pl
      clear Z3 b3
      obtain ⟨vf, hvf⟩ : ∃ vf, vfB b.key x = vf := ⟨_, rfl⟩
      rw [hvf]
      have H5 := Lib.hid hvf
      clear hvf
      cases vf
      · have HN := Lib.hid (show r = 11 by rw [← HR.out]; exact exK_vf H1.out H2.out H3.out H4.out H5.out)
        go_wp2_with fail
        go_ret
        exact ⟨by rw [HN.out]; rfl, Z4.ext⟩
      obtain ⟨z0, z1, z2, z3, z4, z5⟩ := Z4.b.cells
      have zl := Z4.b.lt
      obtain ⟨p0, p1, p2, p3, p4, p5, p6, p7, p8⟩ := (Z4.x).cells
      have pf0 := (Z4.x).frozen 0
      have pf1 := (Z4.x).frozen 1
      have pf2 := (Z4.x).frozen 2
      have pf3 := (Z4.x).frozen 3
      have pf4 := (Z4.x).frozen 4
      have pf5 := (Z4.x).frozen 5
      have pf6 := (Z4.x).frozen 6
      have pf7 := (Z4.x).frozen 7
      have pf8 := (Z4.x).frozen 8
      have pl := (Z4.x).lt
      obtain ⟨y0, y1⟩ := Z4.t.cells
      have yl := Z4.t.lt
      have HN := Lib.hid (show r = 61 by rw [← HR.out]; exact exK_fo H1.out H2.out H3.out H4.out H5.out H6.out)
      go_wp2_with fail
      go_ret
      exact ⟨by rw [HN.out]; rfl, Z4.ext⟩
  have qb3 := qb
  clear qb
  by_cases q4 : x.role = 4
  · have d1 : (b.role == 1) = false := by simp [qb1]
    have d2 : (b.role == 2) = false := by simp [qb2]
    have d3 : (b.role == 3) = false := by simp [qb3]
    have d4 : (x.role == 4) = true := by simp [q4]
    have d5 : (x.role != 4) = false := by simp [q4]
    have d6 : (b.role != 1) = true := by simp [qb1]
    have HB1 := Lib.hid qb1
    have H6 := Lib.hid (show followB b.role x.role = false by unfold followB; rw [if_neg qb1, if_neg (not_or.2 ⟨qb2, qb3⟩)])
    clear q4 qb1 qb2 qb3
    obtain ⟨z0, z1, z2, z3, z4, z5⟩ := Z3.b.cells
    have zl := Z3.b.lt
    obtain ⟨p0, p1, p2, p3, p4, p5, p6, p7, p8⟩ := (Z3.x).cells
    have pf0 := (Z3.x).frozen 0
    have pf1 := (Z3.x).frozen 1
    have pf2 := (Z3.x).frozen 2
    have pf3 := (Z3.x).frozen 3
    have pf4 := (Z3.x).frozen 4
    have pf5 := (Z3.x).frozen 5
    have pf6 := (Z3.x).frozen 6
    have pf7 := (Z3.x).frozen 7
    have pf8 := (Z3.x).frozen 8
    have pl := (Z3.x).lt
    have HQ := Lib.hid (bstr_eq x.au b.ho)
    by_cases h4 : x.au = b.ho
    case neg =>
      have hs : ((bstr x.au).toList == (bstr b.ho).toList) = false := by rw [HQ.out]; exact decide_eq_false h4
      have hs2 : ((bstr x.au).toList != (bstr b.ho).toList) = true := by unfold bne; rw [hs]; rfl
      have HN := Lib.hid (show r = 65 by rw [← HR.out]; exact exK_au H1.out H2.out H3.out h4)
      clear h4
      go_wp2_with fail
      go_ret
      exact ⟨by rw [HN.out]; rfl, Z3.ext⟩
    have hs : ((bstr x.au).toList == (bstr b.ho).toList) = true := by rw [HQ.out]; exact decide_eq_true h4
    have hs2 : ((bstr x.au).toList != (bstr b.ho).toList) = false := by unfold bne; rw [hs]; rfl
    have H4 := Lib.hid h4
    clear h4
    go_wp2_with fail
    refine (HF.out _ Z3.ext).mono ?_
    rintro e w4 ⟨rfl, b4⟩
    have Z4 := Z3.tr b4
    clear z0 z1 z2 z3 z4 z5 zl
    clear p0 pf0 p1 pf1 p2 pf2 p3 pf3 p4 pf4 p5 pf5 p6 pf6 p7 pf7 p8 pf8 pl
    clear Z3 b3
    obtain ⟨vf, hvf⟩ : ∃ vf, vfB b.key x = vf := ⟨_, rfl⟩
    rw [hvf]
    have H5 := Lib.hid hvf
    clear hvf
    cases vf
    · have HN := Lib.hid (show r = 11 by rw [← HR.out]; exact exK_vf H1.out H2.out H3.out H4.out H5.out)
      go_wp2_with fail
      go_ret
      exact ⟨by rw [HN.out]; rfl, Z4.ext⟩
    obtain ⟨z0, z1, z2, z3, z4, z5⟩ := Z4.b.cells
    have zl := Z4.b.lt
    obtain ⟨p0, p1, p2, p3, p4, p5, p6, p7, p8⟩ := (Z4.x).cells
    have pf0 := (Z4.x).frozen 0
    have pf1 := (Z4.x).frozen 1
    have pf2 := (Z4.x).frozen 2
    have pf3 := (Z4.x).frozen 3
    have pf4 := (Z4.x).frozen 4
    have pf5 := (Z4.x).frozen 5
    have pf6 := (Z4.x).frozen 6
    have pf7 := (Z4.x).frozen 7
    have pf8 := (Z4.x).frozen 8
    have pl := (Z4.x).lt
    obtain ⟨y0, y1⟩ := Z4.t.cells
    have yl := Z4.t.lt
    have HN := Lib.hid (show r = 61 by rw [← HR.out]; exact exK_fo H1.out H2.out H3.out H4.out H5.out H6.out)
    go_wp2_with fail
    go_ret
    exact ⟨by rw [HN.out]; rfl, Z4.ext⟩
  · have d1 : (b.role == 1) = false := by simp [qb1]
    have d2 : (b.role == 2) = false := by simp [qb2]
    have d3 : (b.role == 3) = false := by simp [qb3]
    have d4 : (x.role == 4) = false := by simp [q4]
    have d5 : (x.role != 4) = true := by simp [q4]
    have d6 : (b.role != 1) = true := by simp [qb1]
    have HB1 := Lib.hid qb1
    have H6 := Lib.hid (show followB b.role x.role = false by unfold followB; rw [if_neg qb1, if_neg (not_or.2 ⟨qb2, qb3⟩)])
    clear q4 qb1 qb2 qb3
    obtain ⟨z0, z1, z2, z3, z4, z5⟩ := Z3.b.cells
    have zl := Z3.b.lt
    obtain ⟨p0, p1, p2, p3, p4, p5, p6, p7, p8⟩ := (Z3.x).cells
    have pf0 := (Z3.x).frozen 0
    have pf1 := (Z3.x).frozen 1
    have pf2 := (Z3.x).frozen 2
    have pf3 := (Z3.x).frozen 3
    have pf4 := (Z3.x).frozen 4
    have pf5 := (Z3.x).frozen 5
    have pf6 := (Z3.x).frozen 6
    have pf7 := (Z3.x).frozen 7
    have pf8 := (Z3.x).frozen 8
    have pl := (Z3.x).lt
    have HQ := Lib.hid (bstr_eq x.au b.ho)
    by_cases h4 : x.au = b.ho
    case neg =>
      have hs : ((bstr x.au).toList == (bstr b.ho).toList) = false := by rw [HQ.out]; exact decide_eq_false h4
      have hs2 : ((bstr x.au).toList != (bstr b.ho).toList) = true := by unfold bne; rw [hs]; rfl
      have HN := Lib.hid (show r = 65 by rw [← HR.out]; exact exK_au H1.out H2.out H3.out h4)
      clear h4
      go_wp2_with fail
      go_ret
      exact ⟨by rw [HN.out]; rfl, Z3.ext⟩
    have hs : ((bstr x.au).toList == (bstr b.ho).toList) = true := by rw [HQ.out]; exact decide_eq_true h4
    have hs2 : ((bstr x.au).toList != (bstr b.ho).toList) = false := by unfold bne; rw [hs]; rfl
    have H4 := Lib.hid h4
    clear h4
    go_wp2_with fail
    refine (HF.out _ Z3.ext).mono ?_
    rintro e w4 ⟨rfl, b4⟩
    have Z4 := Z3.tr b4
    clear z0 z1 z2 z3 z4 z5 zl
    clear p0 pf0 p1 pf1 p2 pf2 p3 pf3 p4 pf4 p5 pf5 p6 pf6 p7 pf7 p8 pf8 pl
    clear Z3 b3
    obtain ⟨vf, hvf⟩ : ∃ vf, vfB b.key x = vf := ⟨_, rfl⟩
    rw [hvf]
    have H5 := Lib.hid hvf
    clear hvf
    cases vf
    · have HN := Lib.hid (show r = 11 by rw [← HR.out]; exact exK_vf H1.out H2.out H3.out H4.out H5.out)
      go_wp2_with fail
      go_ret
      exact ⟨by rw [HN.out]; rfl, Z4.ext⟩
    obtain ⟨z0, z1, z2, z3, z4, z5⟩ := Z4.b.cells
    have zl := Z4.b.lt
    obtain ⟨p0, p1, p2, p3, p4, p5, p6, p7, p8⟩ := (Z4.x).cells
    have pf0 := (Z4.x).frozen 0
    have pf1 := (Z4.x).frozen 1
    have pf2 := (Z4.x).frozen 2
    have pf3 := (Z4.x).frozen 3
    have pf4 := (Z4.x).frozen 4
    have pf5 := (Z4.x).frozen 5
    have pf6 := (Z4.x).frozen 6
    have pf7 := (Z4.x).frozen 7
    have pf8 := (Z4.x).frozen 8
    have pl := (Z4.x).lt
    obtain ⟨y0, y1⟩ := Z4.t.cells
    have yl := Z4.t.lt
    have HN := Lib.hid (show r = 61 by rw [← HR.out]; exact exK_fo H1.out H2.out H3.out H4.out H5.out H6.out)
    go_wp2_with fail
    go_ret
    exact ⟨by rw [HN.out]; rfl, Z4.ext⟩
end Go.Proofs.YtkjplpmogfmhkaaGreatDoor

namespace Go.Proofs.YtkjplpmogfmhkaaGreatDoor
open Go.RowKit
set_option linter.unusedVariables false
set_option maxRecDepth 100000

structure StW (w wr : World) (A : Option Addr) (n c : Nat) (d : Int) : Prop where
  t : TrAt wr w.heap.size A n c d
  r : ChAt wr (w.heap.size + 1) zeroC
  ext : Ext w wr
theorem StW.tr {w wr wx : World} {A : Option Addr} {n c : Nat} {d : Int} (z : StW w wr A n c d) (e : Ext wr wx) : StW w wx A n c d := ⟨z.t.ext e, z.r.ext e, z.ext.tr e⟩
theorem sw_alloc (w : World) (A : Option Addr) (n c : Nat) (d : Int) : ∃ wz, wz = (w.alloc (.cells #[.slice A n c, .int .i64 d] 24)).alloc (.cells #[.string ⟨#[]⟩, .int .i64 0, .int .i64 0, .int .i64 0, .int .i64 0, .int .i64 0] 28) ∧ StW w wz A n c d := by
  obtain ⟨w1, hw1, e1, T1⟩ := tr_alloc w A n c d
  have s1 : w1.heap.size = w.heap.size + 1 := by rw [hw1]; simp
  rw [← hw1]
  clear hw1
  obtain ⟨w3, hw3, e3, T3⟩ := ch_alloc w1 zeroC
  rw [s1] at T3
  exact ⟨w3, hw3, T1.ext e3, T3, e1.tr e3⟩
set_option maxHeartbeats 4000000 in
theorem refstart26_any {v : Value} (t : TR) (h : List UInt8) (w : World) (hv : TrR w v t) (hs : smR t.ps) :
    Calls Tryz.prog 22 #[v, .string (bstr h)] w (RetQ w (.tuple #[chV (startC t h), .bool (startB t h)])) := by
  have HV := Lib.hid (fun W (e : Ext w W) => refvalid25_any t W (hv.ext e) hs)
  obtain ⟨A, n, c, rfl, hr⟩ := hv
  obtain ⟨l, dt⟩ := t
  obtain ⟨A', n', c', e, hn, hnc, hcm, hel⟩ := hr.at_
  injection e with e1 e2 e3
  subst e1 e2 e3
  have hn' : n = l.length := hn
  subst hn'
  have HEL := Lib.hid hel
  unfold maxLen at hcm
  clear hel hs hr hn
  obtain ⟨wz, hwz, zz⟩ := sw_alloc w A l.length c dt
  obtain ⟨rc, hrc⟩ : ∃ r, startC ⟨l, dt⟩ h = r := ⟨_, rfl⟩
  obtain ⟨rb, hrb⟩ : ∃ r, startB ⟨l, dt⟩ h = r := ⟨_, rfl⟩
  rw [hrc, hrb]
  have HC := Lib.hid hrc
  have HB := Lib.hid hrb
  clear hrc hrb
  go_enter Tryz.func22, Tryz.ntmps22
  go_upto_region 1 with fail
  rw [← hwz]
  clear hwz
  obtain ⟨z0, z1⟩ := zz.t.cells
  have zl := zz.t.lt
  go_wp2_with fail
  refine (HV.out _ zz.ext).mono ?_
  rintro e w2 ⟨rfl, b2⟩
  have Z2 := zz.tr b2
  clear z0 z1 zl zz
  by_cases hv : vdK ⟨l, dt⟩ = 0
  case neg =>
    have hb : (vdK ⟨l, dt⟩ != 0) = true := by simpa using hv
    have HE := Lib.hid (show rc = zeroC ∧ rb = false by have := startB_no (startO_bad (t := ⟨l, dt⟩) (h := h) hv); exact ⟨HC.out.symm.trans this.1, HB.out.symm.trans this.2⟩)
    clear hv
    obtain ⟨q0, q1, q2, q3, q4, q5⟩ := Z2.r.cells
    have f0 := Z2.r.frozen 0
    have f1 := Z2.r.frozen 1
    have f2 := Z2.r.frozen 2
    have f3 := Z2.r.frozen 3
    have f4 := Z2.r.frozen 4
    have f5 := Z2.r.frozen 5
    have fl := Z2.r.lt
    have TZ : ChAt (set6 w2 (w.heap.size + 1) (.string ⟨#[]⟩) (.int .i64 0) (.int .i64 0) (.int .i64 0) (.int .i64 0) (.int .i64 0)) (w.heap.size + 1) zeroC := Z2.r.setC zeroC
    have XF := Lib.hid (ext_setC Z2.ext (show w.heap.size ≤ w.heap.size + 1 by omega) zeroC)
    go_wp2_with fail
    refine bodyPost_ret (v := .tuple #[.agg #[.string ⟨#[]⟩, .int .i64 0, .int .i64 0, .int .i64 0, .int .i64 0, .int .i64 0], .bool false]) ?_ rfl ⟨by rw [HE.out.1, HE.out.2]; rfl, XF.out⟩
    obtain ⟨r0, r1, r2, r3, r4, r5⟩ := TZ.cells0
    clear q0 q1 q2 q3 q4 q5 f0 f1 f2 f3 f4 f5 fl
    simp [results, Tryz.results22, go_sem, r0, r1, r2, r3, r4, r5]
  have hb : (vdK ⟨l, dt⟩ != 0) = false := by simp [hv]
  have HVZ := Lib.hid hv
  have hle : l.length ≤ 2 := (vdK_zero hv).2.1
  clear hv
  go_wp2_with fail
  go_loopw [6] (fun i wr => ∃ k : Nat, k ≤ l.length ∧ i = .int .i64 (k : Int) ∧ StW w wr A l.length c dt ∧ Hid (∀ j u, j < k → l[j]? = some u → u.ho ≠ h)) (fun i _ => l.length - (intOf i).toNat)
  case atStart => exact ⟨0, Nat.zero_le _, rfl, Z2, Lib.hid (fun j u h => by omega)⟩
  case round =>
    clear Z2 b2
    obtain ⟨k, hk, rfl, Z3, hlt0⟩ := hrel
    obtain ⟨z0, z1⟩ := Z3.t.cells
    have zl := Z3.t.lt
    by_cases hlt : k < l.length
    case neg =>
      obtain rfl : k = l.length := by omega
      have HE := Lib.hid (show rc = zeroC ∧ rb = false by have := startB_no (startO_no (t := ⟨l, dt⟩) HVZ.out (h := h) (fun i hi => hlt0.out i _ hi (List.getElem?_eq_getElem hi))); exact ⟨HC.out.symm.trans this.1, HB.out.symm.trans this.2⟩)
      obtain ⟨q0, q1, q2, q3, q4, q5⟩ := Z3.r.cells
      have f0 := Z3.r.frozen 0
      have f1 := Z3.r.frozen 1
      have f2 := Z3.r.frozen 2
      have f3 := Z3.r.frozen 3
      have f4 := Z3.r.frozen 4
      have f5 := Z3.r.frozen 5
      have fl := Z3.r.lt
      have TZ : ChAt (set6 wr (w.heap.size + 1) (.string ⟨#[]⟩) (.int .i64 0) (.int .i64 0) (.int .i64 0) (.int .i64 0) (.int .i64 0)) (w.heap.size + 1) zeroC := Z3.r.setC zeroC
      have XF := Lib.hid (ext_setC Z3.ext (show w.heap.size ≤ w.heap.size + 1 by omega) zeroC)
      go_wp2_with fail
      refine bodyPost_ret (v := .tuple #[.agg #[.string ⟨#[]⟩, .int .i64 0, .int .i64 0, .int .i64 0, .int .i64 0, .int .i64 0], .bool false]) ?_ rfl ⟨by rw [HE.out.1, HE.out.2]; rfl, XF.out⟩
      obtain ⟨r0, r1, r2, r3, r4, r5⟩ := TZ.cells0
      clear q0 q1 q2 q3 q4 q5 f0 f1 f2 f3 f4 f5 fl z0 z1
      simp [results, Tryz.results22, go_sem, r0, r1, r2, r3, r4, r5]
    case pos =>
    obtain ⟨p, hp⟩ : ∃ p, l[k]? = some p := ⟨_, List.getElem?_eq_getElem hlt⟩
    obtain ⟨b, o, rfl, hbl, hc⟩ := HEL.out (by omega)
    obtain ⟨e0, e1, e2, e3, e4⟩ := hc k p hp
    have xw := Z3.ext
    have l0 := (xw.cell (p := ⟨b, o + k * 5, none⟩) hbl).trans e0
    have l1 := (xw.cell (p := ⟨b, o + k * 5 + 1, none⟩) hbl).trans e1
    have l2 := (xw.cell (p := ⟨b, o + k * 5 + 2, none⟩) hbl).trans e2
    have l3 := (xw.cell (p := ⟨b, o + k * 5 + 3, none⟩) hbl).trans e3
    have l4 := (xw.cell (p := ⟨b, o + k * 5 + 4, none⟩) hbl).trans e4
    have hbw : b < wr.heap.size := Nat.lt_of_lt_of_le hbl xw.size
    have HP := Lib.hid hp
    clear e0 e1 e2 e3 e4 hc hp xw
    have z32 := Z3.r.lt
    have wi1 : IntKind.i64.wrap ((k : Int)) = (k : Int) := IntWalk.i64_in _ (by omega)
    have zi1 : (0 : Int) ≤ (k : Int) := by omega
    have li1 : (k : Int) < (l.length : Int) := by omega
    have ti1 : ((k : Int)).toNat = k := by omega
    go_upto_region 7 with fail
    obtain ⟨wp, hwp, ep, TP4⟩ := tp_alloc wr p
    rw [← hwp]
    clear hwp
    have Z4 := Z3.tr ep
    clear z0 z1 zl z32 l0 l1 l2 l3 l4 Z3 hbw
    obtain ⟨p0, p1, p2, p3, p4⟩ := TP4.cells
    have pl := TP4.lt
    have HQ := Lib.hid (bstr_eq p.ho h)
    by_cases hq : p.ho = h
    · have hs : ((bstr p.ho).toList == (bstr h).toList) = true := by rw [HQ.out]; exact decide_eq_true hq
      obtain ⟨hkl, hkp⟩ := List.getElem?_eq_some_iff.1 HP.out
      have HE := Lib.hid (show rc = chOf p ∧ rb = true by
        have := startB_eq (startO_at (t := ⟨l, dt⟩) HVZ.out k hkl (fun i hi hik => hlt0.out i _ hik (List.getElem?_eq_getElem hi)) (by show l[k].ho = h; rw [hkp]; exact hq))
        exact ⟨HC.out.symm.trans (this.1.trans (by show chOf l[k] = _; rw [hkp])), HB.out.symm.trans this.2⟩)
      clear hq hkl hkp
      obtain ⟨q0, q1, q2, q3, q4, q5⟩ := Z4.r.cells
      have f0 := Z4.r.frozen 0
      have f1 := Z4.r.frozen 1
      have f2 := Z4.r.frozen 2
      have f3 := Z4.r.frozen 3
      have f4 := Z4.r.frozen 4
      have f5 := Z4.r.frozen 5
      have fl := Z4.r.lt
      have TZ : ChAt (set6 wp (w.heap.size + 1) (.string (bstr p.ho)) (.int .i64 p.key) (.int .i64 1) (.int .i64 p.rights) (.int .i64 p.fr) (.int .i64 p.to)) (w.heap.size + 1) (chOf p) := Z4.r.setC (chOf p)
      have XF := Lib.hid (ext_setC Z4.ext (show w.heap.size ≤ w.heap.size + 1 by omega) (chOf p))
      clear Z4 TP4 ep
      go_wp2_with fail
      refine bodyPost_ret (v := .tuple #[chV (chOf p), .bool true]) ?_ rfl ⟨by rw [HE.out.1, HE.out.2], XF.out⟩
      obtain ⟨r0, r1, r2, r3, r4, r5⟩ := TZ.cells
      clear q0 q1 q2 q3 q4 q5 f0 f1 f2 f3 f4 f5 fl p0 p1 p2 p3 p4
      simp only [chOf] at r0 r1 r2 r3 r4 r5
      simp [results, Tryz.results22, go_sem, chV, chOf, r0, r1, r2, r3, r4, r5]
    · have hs : ((bstr p.ho).toList == (bstr h).toList) = false := by rw [HQ.out]; exact decide_eq_false hq
      have HQN := Lib.hid hq
      clear hq
      go_wp2_with fail
      go_roundw
      case rel => exact ⟨k + 1, by omega, by go_num, Z4, Lib.hid (fun i u hi hu => by
        by_cases h : i = k
        · subst h
          rw [HP.out] at hu
          rw [← Option.some.inj hu]; exact HQN.out
        · exact hlt0.out i u (by omega) hu)⟩
      case measure => simp [intOf]; omega
end Go.Proofs.YtkjplpmogfmhkaaGreatDoor
