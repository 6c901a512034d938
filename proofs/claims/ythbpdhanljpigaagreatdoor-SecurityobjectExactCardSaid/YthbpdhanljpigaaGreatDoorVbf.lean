/- Parts Xp of the proof. -/
import Derived.Test.YthbpdhanljpigaaGreatDoorVbe
import Derived.Test.YthbpdhanljpigaaGreatDoorVao
import Derived.Laws.IdiomStrings
namespace Go.Proofs.YthbpdhanljpigaaGreatDoor
open Go.RowKit
set_option linter.unusedVariables false
set_option maxRecDepth 100000
theorem run_strB {w : World} {A : Option Addr} {n c : Nat} {l : List UInt8} (h : Rd w (.slice A n c) (bvs l)) : (convert 26 9 (.slice A n c)).run Tryz.prog w = .ok (.string ⟨l.toArray⟩) w := by
  obtain ⟨A', n', c', e, hn, hnc, hcm, hc⟩ := h
  injection e with e1 e2 e3
  subst e1 e2 e3
  rw [bvs_length] at hn
  by_cases h0 : n = 0
  · subst h0
    obtain rfl : l = [] := List.eq_nil_of_length_eq_zero hn.symm
    rw [run_convert_bytes_string w 26 9 5 _ 0 c Tryz.underlying26 Tryz.underlying5 Tryz.underlying9]
    cases A <;> simp [Conv.bytesToString, loadCells]
    all_goals rfl
  · obtain ⟨b, o, rfl, hcell⟩ := hc (by omega)
    subst hn
    refine run_convert_bytes_back w 26 9 5 ⟨b, o, none⟩ c l Tryz.underlying26 Tryz.underlying5 Tryz.underlying9 fun j hj => ?_
    rw [Addr.add_lit]
    exact hcell j _ (by simp [bvs, hj, bv])
theorem bequal_any {a b : Value} {xs ys : List UInt8} (w : World) (ha : Rd w a (bvs xs)) (hb : Rd w b (bvs ys)) : Calls Tryz.prog 54 #[a, b] w (RetQ w (.bool (decide (xs = ys)))) := by
  obtain ⟨A, n1, c, rfl, hn1, z1⟩ := ha.bytes
  obtain ⟨A2, n2, c2, rfl, hn2, z2⟩ := hb.bytes
  clear z1 z2
  subst hn1 hn2
  have s1 := run_strB ha
  have s2 := run_strB hb
  go_enter Tryz.func54, Tryz.ntmps54
  have HE := Lib.hid (show decide (xs = ys) = (xs == ys) by by_cases h : xs = ys <;> simp [h])
  go_wp2_with fail
  go_ret
  exact ⟨by rw [HE.out]; rfl, Below.refl _ _⟩
/-- Is the hash h? -/
def isH (h x : Int × List UInt8) : Bool := x.1 == h.1 && x.2 == h.2
def isI (h : Int × List UInt8) (l : List (Int × List UInt8)) : Int := if (l.any (isH h)) = true then ((l.findIdx (isH h) : Nat) : Int) else -1
theorem isI_ge (h : Int × List UInt8) (l : List (Int × List UInt8)) : decide (0 ≤ isI h l) = l.any (isH h) := by
  unfold isI
  split
  · rename_i q; rw [q]; exact decide_eq_true (by omega)
  · rename_i q; rw [Bool.not_eq_true] at q; rw [q]; exact decide_eq_false (by omega)
/-- A hash in a block of its own. -/
def HsAt (w : World) (g : Nat) (h : Int × List UInt8) (v : Value) : Prop := w.heap[g]? = some (.cells #[.int .i64 h.1, v] 72 (0, 0)) ∧ Rd w v (bvs h.2)
theorem HsAt.ext {w w' : World} {g : Nat} {h : Int × List UInt8} {v : Value} (H : HsAt w g h v) (e : Ext w w') : HsAt w' g h v := ⟨(e.block g (block_lt H.1)).trans H.1, H.2.ext e⟩
theorem HsAt.cells {w : World} {g : Nat} {h : Int × List UInt8} {v : Value} (H : HsAt w g h v) : w.cell? ⟨g, 0, none⟩ = some (.int .i64 h.1) ∧ w.cell? ⟨g, 1, none⟩ = some v := ⟨by rw [cell_of_row w g 0 _ _ _ H.1]; rfl, by rw [cell_of_row w g 1 _ _ _ H.1]; rfl⟩
theorem isH_any {h x : Int × List UInt8} {v u : Value} {g : Nat} (w : World) (H : HsAt w g h v) (hu : Rd w u (bvs x.2)) : Calls Tryz.prog 53 #[.agg #[.int .i64 x.1, u], .pointer (some ⟨g, 0, none⟩)] w (RetQ w (.bool (isH h x))) := by
  obtain ⟨A, n, c, rfl, hn, _⟩ := hu.bytes
  obtain ⟨A2, n2, c2, rfl, hn2, _⟩ := H.2.bytes
  subst hn hn2
  obtain ⟨wz, hwz⟩ : ∃ wz, w.alloc (.cells #[.int .i64 x.1, .slice A x.2.length c] 72) = wz := ⟨_, rfl⟩
  have xz : Ext w wz := by rw [← hwz]; exact (Below.refl _ _).alloc (Nat.le_refl _) _
  have HZ : HsAt wz w.heap.size x (.slice A x.2.length c) := ⟨by rw [← hwz]; exact heap_alloc_new' w _, hu.ext xz⟩
  obtain ⟨z0, z1⟩ := HZ.cells
  obtain ⟨h0, h1⟩ := (H.ext xz).cells
  have HE := Lib.hid (bequal_any wz HZ.2 (H.ext xz).2)
  have XZ := Lib.hid xz
  have HI := Lib.hid (show isH h x = (x.1 == h.1 && decide (x.2 = h.2)) by unfold isH; by_cases q : x.2 = h.2 <;> simp [q])
  clear H hu HZ xz
  obtain ⟨P, hP⟩ : ∃ P, (x.1 == h.1) = P := ⟨_, rfl⟩
  rw [hP] at HI
  cases P
  · go_enter Tryz.func53, Tryz.ntmps53
    go_wp2_with fail
    go_ret
    exact ⟨by rw [HI.out]; rfl, XZ.out⟩
  · go_enter Tryz.func53, Tryz.ntmps53
    go_wp2_with fail
    refine HE.out.mono ?_
    rintro e w' ⟨rfl, b1⟩
    go_wp2_with fail
    go_ret
    exact ⟨by rw [HI.out]; rfl, XZ.out.tr b1⟩
set_option maxHeartbeats 2000000 in
theorem hidx_any {h : Int × List UInt8} {v u : Value} {g : Nat} {l : List (Int × List UInt8)} (w : World) (hv : HsRd w v l) (H : HsAt w g h u) :
    Calls Tryz.prog 112 #[v, .func (.func 53) #[] #[.pointer (some ⟨g, 0, none⟩)]] w (RetQ w (.int .i64 (isI h l))) := by
  obtain ⟨A, n, c, rfl, hn, hnc, hcm, hel⟩ := hv.open_
  subst hn
  unfold maxLen at hcm
  have HE := Lib.hid hel
  have HH := Lib.hid H
  clear hv hel H
  obtain ⟨r, hr⟩ : ∃ r, isI h l = r := ⟨_, rfl⟩
  rw [hr]
  have HR := Lib.hid hr
  clear hr
  go_enter Tryz.func112, Tryz.ntmps112
  go_wp2
  go_loopw [5, 8] (fun _ i wr => ∃ j : Nat, j ≤ l.length ∧ i = .int .i64 (j : Int) ∧ Hid (Ext w wr) ∧ Hid (∀ i u, i < j → l[i]? = some u → isH h u = false)) (fun _ i _ => l.length - (intOf i).toNat)
  case atStart => exact ⟨0, Nat.zero_le _, rfl, Lib.hid (Below.refl _ _), Lib.hid (fun i u h => by omega)⟩
  case round =>
    obtain ⟨j, hj, rfl, bb, hlt0⟩ := hrel
    by_cases hlt : j < l.length
    · obtain ⟨t, ht⟩ : ∃ t, l[j]? = some t := ⟨_, List.getElem?_eq_getElem hlt⟩
      obtain ⟨b, o, rfl, hbl, a1, m1, k1, h0, h1, hr⟩ := HE.out j t ht
      have l0 := (bb.out.cell (p := ⟨b, o + j * 2, none⟩) hbl).trans h0
      have l1 := (bb.out.cell (p := ⟨b, o + j * 2 + 1, none⟩) hbl).trans h1
      have HT := Lib.hid ht
      have HRT := Lib.hid hr
      clear h0 h1 ht hr
      have wi1 : IntKind.i64.wrap ((j : Int)) = (j : Int) := IntWalk.i64_in _ (by omega)
      have zi1 : (0 : Int) ≤ (j : Int) := by omega
      have li1 : (j : Int) < (l.length : Int) := by omega
      have ti1 : ((j : Int)).toNat = j := by omega
      go_wp2_with fail
      clear l0 l1
      refine (isH_any wr (HH.out.ext bb.out) (HRT.out.ext bb.out)).mono ?_
      rintro e wy ⟨rfl, by_⟩
      cases hq : isH h t with
      | true =>
        have HN := Lib.hid (show r = (j : Int) by
          rw [← HR.out]
          unfold isI
          rw [if_pos (List.any_eq_true.2 ⟨t, List.mem_of_getElem? HT.out, hq⟩)]
          congr 1
          rw [List.findIdx_eq hlt]
          refine ⟨?_, fun i hi => ?_⟩
          · have := HT.out; rw [List.getElem?_eq_getElem hlt] at this; rw [Option.some.inj this]; exact hq
          · exact hlt0.out i _ hi (List.getElem?_eq_getElem (by omega)))
        clear hq
        go_wp2_with fail
        go_ret
        exact ⟨by rw [HN.out]; rfl, bb.out.tr by_⟩
      | false =>
        have HQ := Lib.hid hq
        clear hq
        go_wp2_with fail
        go_roundw
        case rel => exact ⟨j + 1, by omega, by go_num, Lib.hid (bb.out.tr by_), Lib.hid (fun i u hi hu => by
          by_cases h : i = j
          · subst h
            rw [HT.out] at hu
            rw [← Option.some.inj hu]; exact HQ.out
          · exact hlt0.out i u (by omega) hu)⟩
        case measure => simp [intOf]; omega
    · obtain rfl : j = l.length := by omega
      have HN := Lib.hid (show r = -1 by
        rw [← HR.out]
        unfold isI
        rw [if_neg]
        intro q
        obtain ⟨x, hx, hq⟩ := List.any_eq_true.1 q
        obtain ⟨i, hi⟩ := List.getElem?_of_mem hx
        rw [hlt0.out i x (List.getElem?_eq_some_iff.1 hi).1 hi] at hq
        cases hq)
      go_wp2
      go_ret
      exact ⟨by rw [HN.out]; rfl, bb.out⟩
theorem hhas_any {h : Int × List UInt8} {v u : Value} {g : Nat} {l : List (Int × List UInt8)} (w : World) (hv : HsRd w v l) (H : HsAt w g h u) :
    Calls Tryz.prog 52 #[v, .func (.func 53) #[] #[.pointer (some ⟨g, 0, none⟩)]] w (RetQ w (.bool (l.any (isH h)))) := by
  have HI := Lib.hid (hidx_any w hv H)
  have HB := Lib.hid (isI_ge h l)
  generalize isI h l = z at *
  generalize l.any (isH h) = q at *
  clear hv H
  go_enter Tryz.func52, Tryz.ntmps52
  go_wp2_with fail
  refine HI.out.mono ?_
  rintro e w' ⟨rfl, b⟩
  go_wp2_with fail
  go_ret
  exact ⟨by rw [← HB.out]; rfl, b⟩
theorem elemI16 : Elem Tryz.prog 22 3 8 := by
  have h : (Tryz.prog.info? 3).map (fun i => (i.zero, i.size, i.bytes)) = some (some (.int .i64 0), 1, 8) := by kernel_rfl
  obtain ⟨i, h1, h2, h3, h4⟩ := info_parts h
  exact ⟨i, _, Tryz.underlying22, h1, h2, h3, h4, rfl⟩
/-- What Differ answers. -/
def DifQ (w : World) (r : Except Int (List Int)) (en : Ending) (w' : World) : Prop := Ext w w' ∧
  ((∃ k, r = .error k ∧ k ≠ 0 ∧ en = .returned (.tuple #[.slice none 0 0, .int .i64 k])) ∨
   (∃ l A n c, r = .ok l ∧ en = .returned (.tuple #[.slice A n c, .int .i64 0]) ∧ n = l.length ∧ RdI w' .i64 (.slice A n c) l))
theorem dif_vd {s : SE} {r : Except Int (List (Int × List UInt8))} (h : vdS s ≠ 0) : difX s r = .error (vdS s) := if_pos h
theorem dif_err {s : SE} {k : Int} (h : vdS s = 0) : difX s (.error k) = .error k := if_neg (not_not_intro h)
theorem dif_ok {s : SE} {hs : List (Int × List UInt8)} (h : vdS s = 0) : difX s (.ok hs) = .ok (dfX s.hs hs) := if_neg (not_not_intro h)
theorem dfX_snoc_in {s hs : List (Int × List UInt8)} {h : Int × List UInt8} (q : s.any (isH h) = true) : dfX s (hs ++ [h]) = dfX s hs := by
  unfold dfX
  rw [List.filter_append, List.map_append]
  have : List.filter (fun h => !(s.any fun x => x.1 == h.1 && x.2 == h.2)) [h] = [] := by simp only [List.filter_cons, List.filter_nil]; rw [show (s.any fun x => x.1 == h.1 && x.2 == h.2) = true from q]; rfl
  rw [this]; simp
theorem dfX_snoc_out {s hs : List (Int × List UInt8)} {h : Int × List UInt8} (q : s.any (isH h) = false) : dfX s (hs ++ [h]) = dfX s hs ++ [h.1] := by
  unfold dfX
  rw [List.filter_append, List.map_append]
  have : List.filter (fun h => !(s.any fun x => x.1 == h.1 && x.2 == h.2)) [h] = [h] := by simp only [List.filter_cons, List.filter_nil]; rw [show (s.any fun x => x.1 == h.1 && x.2 == h.2) = false from q]; rfl
  rw [this]; rfl
set_option maxHeartbeats 4000000 in
theorem differ16_any {vf : Value} {r : Except Int (List (Int × List UInt8))} (s : SE) (vh vc : Value) (w : World) (hr : SeR w s vh vc)
    (HH : ∀ W, Ext w W → Calls Tryz.prog 12 #[vf] W (HsQ W r)) (hb : ∀ hs, r = .ok hs → hs.length ≤ 1000000) : Calls Tryz.prog 21 #[seV s vh vc, vf] w (DifQ w (difX s r)) := by
  obtain ⟨A0, n0, c0, rfl, hn, hnc, hcm, _⟩ := hr.h.open_
  obtain ⟨Ac, nc, cc0, rfl, hnc', _⟩ := hr.c.bytes
  subst hn hnc'
  obtain ⟨wz, hwz, ez, TZ⟩ := se_alloc w s (.slice A0 s.hs.length c0) (.slice Ac s.cert.length cc0)
  have EZ := Lib.hid ez
  have HTZ := Lib.hid TZ
  have HR := Lib.hid hr
  have HHA := Lib.hid HH
  clear hr ez TZ HH hnc hcm
  have HBB := Lib.hid hb
  clear hb
  unfold seV
  go_enter Tryz.func21, Tryz.ntmps21
  go_wp2_with (refine wpList_load_row rfl 37 _ rfl w.heap.size rfl 37 (seRow s.v (.slice A0 s.hs.length c0) (.slice Ac s.cert.length cc0) s.e s.s) (0, 0) _ (by rw [hwz] at HTZ; exact HTZ.out) Tryz.underlying37 rfl info_se ?_)
  rw [← hwz]
  clear hwz
  refine (valid16P_any s _ _ wz (HR.out.ext EZ.out)).mono ?_
  rintro e w2 ⟨rfl, b2⟩
  have X2 := Lib.hid (EZ.out.tr b2)
  have T2 := Lib.hid (HTZ.out.ext b2)
  clear b2
  by_cases hvd : vdS s = 0
  case neg =>
    have HQ := Lib.hid (dif_vd (r := r) hvd)
    have HK := Lib.hid hvd
    generalize vdS s = zV at *
    have hkb : (zV != 0) = true := by simpa using hvd
    clear hvd
    go_wp2_with fail
    go_ret2
    exact ⟨X2.out, .inl ⟨zV, HQ.out, HK.out, rfl⟩⟩
  have HVD := Lib.hid hvd
  rw [hvd]
  clear hvd
  go_wp2_with fail
  refine (HHA.out w2 X2.out).mono ?_
  rintro e w3 ⟨b3, h⟩
  have X3 := Lib.hid (X2.out.tr b3)
  have T3 := Lib.hid (T2.out.ext b3)
  clear b3
  rcases h with ⟨z, hE, hz, rfl⟩ | ⟨hs, A1, n1, c1, hE, rfl, hH⟩
  · have HQ := Lib.hid ((congrArg (difX s) hE).trans (dif_err HVD.out))
    have HK := Lib.hid hz
    have hkb : (z != 0) = true := by simpa using hz
    clear hE hz
    go_wp2_with fail
    go_ret2
    exact ⟨X3.out, .inl ⟨z, HQ.out, HK.out, rfl⟩⟩
  have HQ := Lib.hid ((congrArg (difX s) hE).trans (dif_ok HVD.out))
  have HLB := Lib.hid (HBB.out hs hE)
  obtain ⟨A', n', c', e', hn1, hnc1, hcm1, hel⟩ := hH.open_
  injection e' with e1' e2' e3'
  subst e1' e2' e3'
  subst hn1
  unfold maxLen at hcm1
  have HE := Lib.hid hel
  clear hE hH hel
  go_wp2_with fail
  go_loopw [9, 11, 27] (fun v _ i wr => ∃ (j : Nat) (A : Option Addr) (n cc : Nat), j ≤ hs.length ∧ v = .slice A n cc ∧ i = .int .i64 (j : Int) ∧ Hid (n = (dfX s.hs (hs.take j)).length) ∧ Hid (Ext w3 wr) ∧
    Hid (Own wr w3.heap.size 3 (.slice A n cc) ((dfX s.hs (hs.take j)).map (Value.int .i64)))) (fun _ _ i _ => hs.length - (intOf i).toNat)
  case atStart => exact ⟨0, none, 0, 0, Nat.zero_le _, rfl, rfl, Lib.hid rfl, Lib.hid (Below.refl _ _), Lib.hid (Own.nil_ _ _ _)⟩
  case round =>
  obtain ⟨j, A, n, cc, hj, rfl, rfl, HN, E, OW⟩ := hrel
  by_cases hlt : j < hs.length
  case neg =>
    obtain rfl : j = hs.length := by omega
    have HL := Lib.hid (show hs.take hs.length = hs from List.take_length)
    go_wp2_with fail
    go_ret2
    have h1 := HN.out
    have h2 := OW.out
    rw [HL.out] at h1 h2
    exact ⟨X3.out.tr E.out, .inr ⟨_, A, n, cc, HQ.out, rfl, h1, h2.rd⟩⟩
  case pos =>
  obtain ⟨h, hh⟩ : ∃ h, hs[j]? = some h := ⟨_, List.getElem?_eq_getElem hlt⟩
  obtain ⟨bb, o, rfl, hbl, a1, m1, k1, e0, e1, r1⟩ := HE.out j h hh
  have l0 := (E.out.cell (p := ⟨bb, o + j * 2, none⟩) hbl).trans e0
  have l1 := (E.out.cell (p := ⟨bb, o + j * 2 + 1, none⟩) hbl).trans e1
  have HT := Lib.hid (take_snoc hh)
  have HLN := Lib.hid (show (dfX s.hs (hs.take j)).length ≤ j from by
    unfold dfX
    rw [List.length_map]
    refine Nat.le_trans (List.length_filter_le _ _) ?_
    rw [List.length_take]; omega)
  have wi2 : IntKind.i64.wrap ((j : Int)) = (j : Int) := IntWalk.i64_in _ (by omega)
  have zi2 : (0 : Int) ≤ (j : Int) := by omega
  have li2 : (j : Int) < (hs.length : Int) := by omega
  have ti2 : ((j : Int)).toNat = j := by omega
  obtain ⟨wk, hwk⟩ : ∃ wk, wr.alloc (.cells #[.int .i64 h.1, .slice a1 m1 k1] 72) = wk := ⟨_, rfl⟩
  have EK : Ext wr wk := by rw [← hwk]; exact (Below.refl _ _).alloc (Nat.le_refl _) _
  have FK := Lib.hid (E.out.tr EK)
  have HK := Lib.hid (show HsAt wk wr.heap.size h (.slice a1 m1 k1) from ⟨by rw [← hwk]; exact heap_alloc_new' wr _, r1.ext FK.out⟩)
  have EKH := Lib.hid EK
  have t1 := (T3.out.ext FK.out).c1
  clear e0 e1 r1 hh EK
  go_wp2_with fail
  clear hwk l0 l1 t1
  refine (hhas_any wk ((HR.out.h.ext X3.out).ext FK.out) HK.out).mono ?_
  rintro e w6 ⟨rfl, b6⟩
  have F6 := Lib.hid (FK.out.tr b6)
  have E6 := Lib.hid (EKH.out.tr b6)
  have H6 := Lib.hid (HK.out.ext b6)
  clear b6
  cases hq : s.hs.any (isH h) with
  | true =>
    have HD := Lib.hid (show dfX s.hs (hs.take (j + 1)) = dfX s.hs (hs.take j) by rw [HT.out]; exact dfX_snoc_in hq)
    clear hq
    go_wp2_with fail
    go_roundw
    case rel => exact ⟨j + 1, A, n, cc, by omega, rfl, by go_num, Lib.hid (by rw [HD.out]; exact HN.out), F6, Lib.hid (by rw [HD.out]; exact OW.out.ext E6.out)⟩
    case measure => simp [intOf]; omega
  | false =>
    have HD := Lib.hid (show dfX s.hs (hs.take (j + 1)) = dfX s.hs (hs.take j) ++ [h.1] by rw [HT.out]; exact dfX_snoc_out hq)
    clear hq
    obtain ⟨y0, _⟩ := H6.out.cells
    obtain ⟨w7, hw7⟩ : ∃ w7, w6.alloc (.cells #[.int .i64 h.1] 3) = w7 := ⟨_, rfl⟩
    have x7 : Ext w6 w7 := by rw [← hw7]; exact (Below.refl _ _).alloc (Nat.le_refl _) _
    have R7 := Lib.hid (show Rd w7 (.slice (some ⟨w6.heap.size, 0, none⟩) 1 1) [.int .i64 h.1] by rw [← hw7]; exact Rd.lit w6 #[.int .i64 h.1] _ 1 rfl (by unfold maxLen; omega))
    have F7 := Lib.hid (F6.out.tr x7)
    have O7 := Lib.hid (OW.out.ext (E6.out.tr x7))
    have HB := Lib.hid (show w3.heap.size ≤ w7.heap.size from F7.out.size)
    have hlb : (dfX s.hs (hs.take j)).length ≤ 1000000 := by have := HLN.out; have := HLB.out; omega
    clear x7
    go_wp2_with (refine wpList_appR (w0 := w3) elemI16 O7.out R7.out (by intro u hu; rw [List.mem_singleton.1 hu]; rfl) F7.out (by simp only [List.length_map, List.length_cons, List.length_nil]; omega) (by unfold maxLen; simp only [List.length_map, List.length_cons, List.length_nil]; omega) HB.out rfl rfl rfl rfl ?_; intro A8 c8 w8 o8 b8 _ _; simp only [List.length_map, List.length_cons, List.length_nil] at o8 ⊢)
    go_roundw
    case rel =>
      refine ⟨j + 1, A8, _, c8, by omega, rfl, by go_num, Lib.hid (by rw [HD.out]; simp), Lib.hid b8, Lib.hid ?_⟩
      rw [HD.out, List.map_append]
      exact o8
    case measure => simp [intOf]; omega
end Go.Proofs.YthbpdhanljpigaaGreatDoor
