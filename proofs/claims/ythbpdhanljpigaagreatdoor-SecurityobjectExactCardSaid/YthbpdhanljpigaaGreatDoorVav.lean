/- Parts Qj Qk of the proof. -/
import Derived.Test.YthbpdhanljpigaaGreatDoorVau
import Derived.Test.YthbpdhanljpigaaGreatDoorVat
namespace Go.Proofs.YthbpdhanljpigaaGreatDoor
open Go.RowKit
set_option linter.unusedVariables false
set_option maxRecDepth 100000
theorem objsX_u0 {q : Bool} {dep : Int} {c p : Nat} {L : List UInt8} (h1 : L.length ≤ p ∨ (byteI L p = 0 ∧ L.length ≤ p + 1)) : objsX q true dep c (L.drop p) = .error 6 := by
  have h := objsX_t0 (q := q) (dep := dep) (c := c) (Nat.le_refl L.length) h1
  rwa [List.take_length] at h
theorem objsX_u1 {q : Bool} {dep : Int} {c p : Nat} {L : List UInt8} (h1 : p + 1 < L.length) (z0 : byteI L p = 0) (z1 : byteI L (p + 1) = 0) : objsX q true dep c (L.drop p) = .ok ([], c, 2) := by
  have h := objsX_t1 (q := q) (dep := dep) (c := c) (Nat.le_refl L.length) h1 z0 z1
  rwa [List.take_length] at h
theorem moreX_u {p : Nat} {L : List UInt8} (h1 : p < L.length) (h2 : byteI L p ≠ 0 ∨ (p + 1 < L.length ∧ byteI L (p + 1) ≠ 0)) : moreX true (L.drop p) := by
  have h := moreX_t (Nat.le_refl L.length) h1 h2
  rwa [List.take_length] at h
theorem tagX_zero {l : List UInt8} (h : l.length ≥ 1) (hz : byteI l 0 = 0) : tagX l = .error 4 := by
  unfold tagX
  rw [if_neg (by omega), hz, if_neg (by decide), if_neg (by decide)]
set_option maxHeartbeats 40000000 in
theorem listq_true {qq : Bool} {d : Nat} (hd9 : d ≤ 9) (H : ∀ d', d = d' + 1 → ListOkQ qq false d' ∧ ListOkQ qq true d') : ListOkQ qq true d := by
  intro w b L cnt hb hl hc
  have HH := Lib.hid H
  clear H
  obtain ⟨A0, n0, c0, rfl, hn0, hnc0, hcm0, hA0⟩ := hb.bytes
  subst hn0
  unfold maxLen at hcm0
  have HB := Lib.hid hb
  clear hb
  obtain ⟨dep, hdep⟩ : ∃ dep : Int, dep = 9 - (d : Int) := ⟨_, rfl⟩
  rw [← hdep]
  obtain ⟨hdepl, hdepu⟩ : 0 ≤ dep ∧ dep ≤ 9 := by omega
  have HDEP := Lib.hid hdep
  clear hdep
  have R0 : LiLq w qq true L d cnt dep (.int .i64 (cnt : Int)) (.slice none 0 0) (.int .i64 0) w :=
    ⟨0, cnt, none, 0, 0, [], [], rfl, rfl, rfl, rfl, Nat.zero_le _, by simp, hc, Below.refl _ _, OwnK.empty _ _ _ _ _, NdCells.nil _ _ _, fun _ => rfl, by
      rw [List.drop_zero, addX_nil]⟩
  have R0' := Lib.hid R0
  clear R0
  obtain ⟨r, hr⟩ : ∃ r, objsX qq true dep cnt L = r := ⟨_, rfl⟩
  rw [hr]
  have HRR := Lib.hid hr
  have HA0 := Lib.hid hA0
  clear hr hA0
  go_enter Tryz.func149, Tryz.ntmps149
  go_wp2
  go_loopw [2, 14, 15, 16, 17, 18, 19, 20, 97, 100, 103, 120, 138] (fun sofar out at_ _ _ _ _ _ _ _ _ _ _ wr => LiLq w qq true L d cnt dep sofar out at_ wr) (fun _ _ at_ _ _ _ _ _ _ _ _ _ _ _ => L.length - (intOf at_).toNat)
  case atStart => exact R0'.out
  case round =>
    obtain ⟨p, c', A, n, cc, xs, done, rfl, rfl, rfl, hn, hpe, hdc, hc6, bw, ow, nc, hd0, hP⟩ := hrel
    have HP := Lib.hid (HRR.out.symm.trans hP)
    have HN := Lib.hid hn
    clear hP hn
    by_cases hlt : p < L.length
    · obtain ⟨bb, o, rfl, hbl, hcell⟩ := HA0.out (by omega)
      have hlt' : ¬ (L.length : Int) ≤ (p : Int) := by omega
      have hcp : ¬ c0 = p := by omega
      have x0 := (bw.cell (p := ⟨bb, o + p, none⟩) hbl).trans (hcell p (by omega))
      have wi1 : IntKind.i64.wrap ((p : Int)) = (p : Int) := IntWalk.i64_in _ (by omega)
      have zi1 : (0 : Int) ≤ (p : Int) := by omega
      have li1 : (p : Int) < (L.length : Int) := by omega
      have ti1 : ((p : Int)).toNat = p := by omega
      have wa1 : IntKind.i64.wrap ((p : Int) + 1) = (p : Int) + 1 := IntWalk.i64_in _ (by omega)
      have wa2 : IntKind.i64.wrap ((p : Int) + 2) = (p : Int) + 2 := IntWalk.i64_in _ (by omega)
      by_cases hz : byteI L p = 0
      · rw [hz] at x0
        by_cases h1 : L.length ≤ p + 1
        · have hl1 : (L.length : Int) ≤ (p : Int) + 1 := by omega
          have HNO := Lib.hid (show r = .error 6 by rw [HP.out]; exact addX_err (objsX_u0 (.inr ⟨hz, h1⟩)))
          clear hz
          go_wp2_with fail
          refine bodyPost_ret (v := .tuple #[.slice none 0 0, .int .i64 0, .int .i64 0, .int .i64 6]) ?_ rfl (listQ_no (by decide) HNO.out bw)
          simp [results, Tryz.results149, go_sem]
        · have hl1 : ¬ (L.length : Int) ≤ (p : Int) + 1 := by omega
          have x1c := (bw.cell (p := ⟨bb, o + (p + 1), none⟩) hbl).trans (hcell (p + 1) (by omega))
          obtain ⟨pp, hpp⟩ : ∃ pp, pp = p + 1 := ⟨_, rfl⟩
          have ep : (p : Int) + 1 = (pp : Int) := by omega
          rw [← hpp] at x1c
          have HPP := Lib.hid hpp
          replace wa1 := wa1.trans ep
          rw [ep] at hl1
          have hppl : pp < L.length := by omega
          clear hpp ep
          have wi2 : IntKind.i64.wrap ((pp : Int)) = (pp : Int) := IntWalk.i64_in _ (by omega)
          have zi2 : (0 : Int) ≤ (pp : Int) := by omega
          have li2 : (pp : Int) < (L.length : Int) := by omega
          have ti2 : ((pp : Int)).toNat = pp := by omega
          by_cases hz2 : byteI L pp = 0
          · rw [hz2] at x1c
            have HR2 := Lib.hid (show r = .ok (done, c', p + 2) by rw [HP.out, objsX_u1 (by have := HPP.out; omega) hz (by rw [← HPP.out]; exact hz2)]; simp [addX])
            clear hz hz2
            go_wp2_with fail
            refine bodyPost_ret (v := .tuple #[.slice A n cc, .int .i64 ((p : Int) + 2), .int .i64 (c' : Int), .int .i64 0]) ?_ rfl ⟨bw, .inr ⟨done, c', p + 2, A, n, cc, HR2.out, rfl, objs_fin HN.out hd0 ow nc⟩⟩
            simp [results, Tryz.results149, go_sem]
          · have hz2b : (byteI L pp == 0) = false := by simp [hz2]
            have q0 := byteI_lo L pp
            have q1 := byteI_hi L pp
            have HMO := Lib.hid (moreX_u hlt (.inr ⟨by have := HPP.out; omega, by rw [← HPP.out]; exact hz2⟩))
            have HTE := Lib.hid (tagX_zero (show (L.drop p).length ≥ 1 by rw [List.length_drop]; omega) (show byteI (L.drop p) 0 = 0 by rw [byteI_drop]; exact hz))
            have hpc : p ≤ c0 := by omega
            have HNO := Lib.hid (show r = .error 4 by rw [HP.out]; exact addX_err (objsX_err HMO.out (objX1_tag HTE.out)))
            have RDP := Lib.hid ((HB.out.ext bw).dropB p (by omega))
            clear hz hz2
            go_wp2_with fail
            refine (reftagX_any _ RDP.out).mono ?_
            rintro en wa ⟨b1, hx⟩
            have x1 := bw.tr b1
            rcases hx with ⟨x, y, k, ht, rfl⟩ | ⟨t, k, ht, rfl⟩
            · obtain rfl : (4 : Int) = k := by have := HTE.out.symm.trans ht; injection this
              clear ht
              go_wp2_with fail
              refine bodyPost_ret (v := .tuple #[.slice none 0 0, .int .i64 0, .int .i64 0, .int .i64 4]) ?_ rfl (listQ_no (by decide) HNO.out x1)
              simp [results, Tryz.results149, go_sem]
            · have := HTE.out.symm.trans ht; cases this
      · have hzb : (byteI L p == 0) = false := by simp [hz]
        have b0 := byteI_lo L p
        have b1' := byteI_hi L p
        have HMO := Lib.hid (moreX_u hlt (.inl hz))
        clear hz hcell
        have hpc : p ≤ c0 := by omega
        obtain ⟨r1, hr1⟩ : ∃ r1, objX1 qq (objsX qq) dep c' (L.drop p) = r1 := ⟨_, rfl⟩
        have HR1 := Lib.hid hr1
        clear hr1
        have HNE := Lib.hid (fun (ke : Int) (h : r1 = .error ke) => (show r = .error ke by rw [HP.out]; exact addX_err (objsX_err HMO.out (HR1.out.trans h))))
        have rdp := (HB.out.ext bw).dropB p (by omega)
        have RDP := Lib.hid rdp
        clear rdp
        go_wp2_with fail
        refine (reftagX_any _ RDP.out).mono ?_
        rintro en wa ⟨b1, hx⟩
        have x1 := bw.tr b1
        rcases hx with ⟨x, y, k, ht, rfl⟩ | ⟨t, k, ht, rfl⟩
        · have hk := tagX_neq ht
          have hk2 : (k != 0) = true := by simpa using hk
          have HNO := Lib.hid (HNE.out k (HR1.out.symm.trans (objX1_tag ht)))
          clear ht
          go_wp2_with fail
          refine bodyPost_ret (v := .tuple #[.slice none 0 0, .int .i64 0, .int .i64 0, .int .i64 k]) ?_ rfl (listQ_no hk HNO.out x1)
          simp [results, Tryz.results149, go_sem]
        · obtain ⟨k0, k1, k2, t0, t1, hv⟩ := tagX_bd ht
          rw [List.length_drop] at k2
          have HT := Lib.hid ht
          clear ht
          obtain ⟨p1, hp1⟩ : ∃ p1, p1 = p + k := ⟨_, rfl⟩
          have ep1 : (p : Int) + (k : Int) = (p1 : Int) := by omega
          have HP1 := Lib.hid hp1
          have hp1l : p1 ≤ L.length := by omega
          have wp1 : IntKind.i64.wrap ((p : Int) + (k : Int)) = (p1 : Int) := by rw [ep1]; exact IntWalk.i64_in _ (by omega)
          clear hp1 ep1
          obtain ⟨q, hq⟩ : ∃ q, consT t = q := ⟨_, rfl⟩
          have HQ := Lib.hid hq
          have HCO := fun w => refcons_any t w t0 t1
          rw [hq] at HCO
          have HCO' := Lib.hid HCO
          clear HCO hq
          have rs := fun (W : World) (h : Ext wa W) => ((HB.out.ext x1).ext h).cut p1 L.length hp1l (by rw [bvs_length]; exact Nat.le_refl _)
          have e1 : ((bvs L).drop p1).take (L.length - p1) = bvs (L.drop p1) := by
            rw [List.take_of_length_le (by rw [List.length_drop, bvs_length]; exact Nat.le_refl _)]
            simp [bvs, List.map_drop]
          rw [e1] at rs
          have e2 : (if c0 = p1 then some (⟨bb, o, none⟩ : Addr) else (some (⟨bb, o, none⟩ : Addr)).map (·.add p1)) = (if c0 = p1 then some (⟨bb, o, none⟩ : Addr) else some ⟨bb, o + p1, none⟩) := by simp [Addr.add_lit]
          rw [e2] at rs
          obtain ⟨A9, hA9⟩ : ∃ A9, (if c0 = p1 then some (⟨bb, o, none⟩ : Addr) else some ⟨bb, o + p1, none⟩) = A9 := ⟨_, rfl⟩
          rw [hA9] at rs
          clear e2
          have RS := Lib.hid rs
          clear rs e1
          have wi3 : IntKind.i64.wrap ((p1 : Int)) = (p1 : Int) := IntWalk.i64_in _ (by omega)
          have zi3 : (0 : Int) ≤ (p1 : Int) := by omega
          have li3 : (p1 : Int) < (L.length : Int) + 1 := by omega
          have ti3 : ((p1 : Int)).toNat = p1 := by omega
          cases hlp : lenX qq q (L.drop p1) with
          | error ze =>
            have hz0 := lenX_neq hlp
            have HZ := Lib.hid (szX_no hlp)
            have hk2 : (ze != 0) = true := by simpa using hz0
            have HNO := Lib.hid (HNE.out ze (HR1.out.symm.trans (objX1_head (by unfold headX; rw [HT.out]; simp only [List.drop_drop]; rw [HQ.out, ← HP1.out, hlp]))))
            clear hlp
            go_wp2_with (first
              | (go_quiet (first
                | (go_at_call 156; exact (HCO'.out _).mono fun _ _ ⟨h1, h2⟩ => ⟨h1, _, h2.symm⟩)
                | (go_at_call 175; exact (refsizeX_any q qq _ (RS.out _ (Ext.drewN_ _ _))).mono fun _ _ ⟨h1, h2⟩ => ⟨h1.trans (by rw [HZ.out]), _, h2.symm⟩))))
            refine bodyPost_ret (v := .tuple #[.slice none 0 0, .int .i64 0, .int .i64 0, .int .i64 ze]) ?_ rfl (listQ_no hz0 HNO.out (x1.tr (Ext.drewN_ _ _)))
            simp [results, Tryz.results149, go_sem]
          | ok v =>
            obtain ⟨nI, j⟩ := v
            obtain ⟨j0, j1, j2, n3, n4, n5⟩ := lenX_bd hlp
            rw [List.length_drop] at j2
            have N34 := Lib.hid (And.intro n3 n4)
            clear n3 n4
            have hhead : headX qq dep c' (L.drop p) = if 8 < dep then .error 7 else if 256 < c' + 1 then .error 2 else if ((L.length - p : Nat) : Int) - (k + j : Nat) < nI then .error 6 else .ok (t, k + j, nI) := by
              unfold headX
              rw [HT.out]
              simp only [List.drop_drop, List.length_drop]
              rw [HQ.out, ← HP1.out, hlp]
            have HHD := Lib.hid hhead
            have HN5 := Lib.hid n5
            have HZ := Lib.hid (szX_yes hlp)
            have hcp1 : ¬ c0 = p1 := by omega
            have RS2 := Lib.hid (fun (W : World) (h : Ext wa W) => ((HB.out.ext x1).ext h).dropB p1 hp1l)
            clear hlp hhead hA9 RS n5
            obtain ⟨p2, hp2⟩ : ∃ p2, p2 = p1 + j := ⟨_, rfl⟩
            have ep2 : (p1 : Int) + (j : Int) = (p2 : Int) := by omega
            have HP2 := Lib.hid hp2
            have hp2l : p2 ≤ L.length := by omega
            have wp2 : IntKind.i64.wrap ((p1 : Int) + (j : Int)) = (p2 : Int) := by rw [ep2]; exact IntWalk.i64_in _ (by omega)
            clear hp2 ep2
            have wc : IntKind.i64.wrap ((c' : Int) + 1) = (c' : Int) + 1 := IntWalk.i64_in _ (by omega)
            have wlp : IntKind.i64.wrap ((L.length : Int) - (p2 : Int)) = (L.length : Int) - (p2 : Int) := IntWalk.i64_in _ (by omega)
            by_cases hd8 : 8 < dep
            · have HNO := Lib.hid (HNE.out 7 (HR1.out.symm.trans (objX1_head (HHD.out.trans (if_pos hd8)))))
              go_wp2_with (first
                | (go_quiet (first
                  | (go_at_call 156; exact (HCO'.out _).mono fun _ _ ⟨h1, h2⟩ => ⟨h1, _, h2.symm⟩)
                  | (go_at_call 175; exact (refsizeX_any q qq _ (RS2.out _ (Ext.drewN_ _ _))).mono fun _ _ ⟨h1, h2⟩ => ⟨h1.trans (by rw [HZ.out]), _, h2.symm⟩))))
              refine bodyPost_ret (v := .tuple #[.slice none 0 0, .int .i64 0, .int .i64 0, .int .i64 7]) ?_ rfl (listQ_no (by decide) HNO.out (x1.tr (Ext.drewN_ _ _)))
              simp [results, Tryz.results149, go_sem]
            · have hd0 : 1 ≤ d := by have := HDEP.out; omega
              have HH1 := Lib.hid (HHD.out.trans (if_neg hd8))
              clear HHD
              by_cases hcn : 256 < (c' : Int) + 1
              · have HNO := Lib.hid (HNE.out 2 (HR1.out.symm.trans (objX1_head (HH1.out.trans (if_pos (by omega))))))
                go_wp2_with (first
                  | (go_quiet (first
                    | (go_at_call 156; exact (HCO'.out _).mono fun _ _ ⟨h1, h2⟩ => ⟨h1, _, h2.symm⟩)
                    | (go_at_call 175; exact (refsizeX_any q qq _ (RS2.out _ (Ext.drewN_ _ _))).mono fun _ _ ⟨h1, h2⟩ => ⟨h1.trans (by rw [HZ.out]), _, h2.symm⟩))))
                refine bodyPost_ret (v := .tuple #[.slice none 0 0, .int .i64 0, .int .i64 0, .int .i64 2]) ?_ rfl (listQ_no (by decide) HNO.out (x1.tr (Ext.drewN_ _ _)))
                simp [results, Tryz.results149, go_sem]
              · have HH2 := Lib.hid (HH1.out.trans (if_neg (by omega)))
                clear HH1
                by_cases hfit : (L.length : Int) - (p2 : Int) < nI
                · have HNO := Lib.hid (HNE.out 6 (HR1.out.symm.trans (objX1_head (HH2.out.trans (if_pos (by have := HP1.out; have := HP2.out; omega))))))
                  go_wp2_with (first
                    | (go_quiet (first
                      | (go_at_call 156; exact (HCO'.out _).mono fun _ _ ⟨h1, h2⟩ => ⟨h1, _, h2.symm⟩)
                      | (go_at_call 175; exact (refsizeX_any q qq _ (RS2.out _ (Ext.drewN_ _ _))).mono fun _ _ ⟨h1, h2⟩ => ⟨h1.trans (by rw [HZ.out]), _, h2.symm⟩))))
                  refine bodyPost_ret (v := .tuple #[.slice none 0 0, .int .i64 0, .int .i64 0, .int .i64 6]) ?_ rfl (listQ_no (by decide) HNO.out (x1.tr (Ext.drewN_ _ _)))
                  simp [results, Tryz.results149, go_sem]
                · have hrr : r1 = objX1 qq (objsX qq) dep c' (L.drop p) := HR1.out.symm
                  unfold objX1 at hrr
                  rw [HH2.out, if_neg (by have := HP1.out; have := HP2.out; omega)] at hrr
                  simp only [List.drop_drop] at hrr
                  rw [show p + (k + j) = p2 by have := HP1.out; have := HP2.out; omega, HQ.out] at hrr
                  have HRY0 := Lib.hid hrr
                  clear hrr HH2
                  obtain ⟨d', rfl⟩ : ∃ d', d = d' + 1 := ⟨d - 1, by omega⟩
                  have wdd : IntKind.i64.wrap (dep + 1) = dep + 1 := IntWalk.i64_in _ (by omega)
                  by_cases hneg : nI < 0
                  · have hm1 : nI = -1 := by have := N34.out.1; omega
                    subst hm1
                    clear N34
                    have HRX0 := Lib.hid (HRY0.out.trans (if_pos (by decide)))
                    clear HRY0 HN5 hneg
                    have RS3F := fun (W : World) (e : Ext w W) => (HB.out.ext e).cut p2 L.length hp2l (by rw [bvs_length]; exact Nat.le_refl _)
                    have e3 : ((bvs L).drop p2).take (L.length - p2) = bvs (L.drop p2) := by
                      rw [List.take_of_length_le (by rw [List.length_drop, bvs_length]; exact Nat.le_refl _)]
                      simp [bvs, List.map_drop]
                    have e4 : (if c0 = p2 then some (⟨bb, o, none⟩ : Addr) else (some (⟨bb, o, none⟩ : Addr)).map (·.add p2)) = (if c0 = p2 then some (⟨bb, o, none⟩ : Addr) else some ⟨bb, o + p2, none⟩) := by simp [Addr.add_lit]
                    obtain ⟨A8, hA8⟩ : ∃ A8, (if c0 = p2 then some (⟨bb, o, none⟩ : Addr) else some ⟨bb, o + p2, none⟩) = A8 := ⟨_, rfl⟩
                    simp only [e3, e4, hA8] at RS3F
                    have RS3H := Lib.hid RS3F
                    clear e3 e4 RS3F
                    have wi4 : IntKind.i64.wrap ((p2 : Int)) = (p2 : Int) := IntWalk.i64_in _ (by omega)
                    have zi4 : (0 : Int) ≤ (p2 : Int) := by omega
                    have li4 : (p2 : Int) < (L.length : Int) + 1 := by omega
                    have ti4 : ((p2 : Int)).toNat = p2 := by omega
                    have hpc2 : p2 ≤ c0 := by omega
                    go_wp2_with (first
                      | (go_quiet (first
                        | (go_at_call 156; exact (HCO'.out _).mono fun _ _ ⟨h1, h2⟩ => ⟨h1, _, h2.symm⟩)
                        | (go_at_call 175; exact (refsizeX_any q qq _ (RS2.out _ (Ext.drewN_ _ _))).mono fun _ _ ⟨h1, h2⟩ => ⟨h1.trans (by rw [HZ.out]), _, h2.symm⟩)); have xq := Ext.drewN_ wa nq; generalize wa.drewN nq = wb at *))
                    have hxc5 := C3.new wb (.int .i64 t) (.slice none 0 0) (.slice none 0 0)
                    have x5 : Ext wb (wb.alloc (.cells #[.int .i64 t, .slice none 0 0, .slice none 0 0] 83)) := (Below.refl _ _).alloc (Nat.le_refl _) _
                    have hl5 := hxc5.lt
                    generalize wb.alloc (.cells #[.int .i64 t, .slice none 0 0, .slice none 0 0] 83) = W5 at *
                    have xw5 : Ext wr W5 := b1.tr (xq.tr x5)
                    obtain ⟨y0, y1, y2, yf0, yf1, yf2⟩ := hxc5.cells
                    have RS3 := Lib.hid (RS3H.out _ (bw.tr xw5))
                    have sz5 := x5.size
                    have hwb5 : wb.heap.size < W5.heap.size := hl5
                    have hO := (HH.out d' rfl).2 W5 _ _ (c' + 1) RS3.out (by rw [List.length_drop]; omega) (by omega)
                    rw [show (9 : Int) - (d' : Int) = dep + 1 by have := HDEP.out; omega, show ((c' + 1 : Nat) : Int) = (c' : Int) + 1 by omega] at hO
                    have HO := Lib.hid hO
                    clear hO
                    go_wp2_with fail
                    refine HO.out.mono ?_
                    rintro en w6 ⟨b6, hx⟩
                    have hxc6 : C3 w6 wb.heap.size (.int .i64 t) (.slice none 0 0) (.slice none 0 0) := hxc5.ext b6
                    have hl6 := hxc6.lt
                    clear y0 y1 y2 yf0 yf1 yf2
                    obtain ⟨y0, y1, y2, yf0, yf1, yf2⟩ := hxc6.cells
                    rcases hx with ⟨A6, n6, c6, x, y, kk, hn0, hkk, rfl⟩ | ⟨ks, c1, uu, A6, n6, c6, hn0, rfl, nd6⟩
                    · have hkk2 : (kk != 0) = true := by simpa using hkk
                      have HNO := Lib.hid (HNE.out kk (by rw [HRX0.out, hn0]))
                      clear hn0
                      go_wp2_with fail
                      refine bodyPost_ret (v := .tuple #[.slice none 0 0, .int .i64 0, .int .i64 0, .int .i64 kk]) ?_ rfl (listQ_no hkk HNO.out (((bw.tr xw5).tr b6).setCell (p := ⟨wb.heap.size, 2, none⟩) (by have := (b1.tr xq).size; have := bw.size; show w.heap.size ≤ wb.heap.size; omega) _))
                      simp [results, Tryz.results149, go_sem]
                    · have HRX := Lib.hid (show r1 = .ok (Nd.mk t [] ks, c1, k + j + uu) by rw [HRX0.out, hn0])
                      have huu := objsX_used hn0
                      rw [List.length_drop] at huu
                      have wpn : IntKind.i64.wrap ((p2 : Int) + (uu : Int)) = (p2 : Int) + (uu : Int) := IntWalk.i64_in _ (by omega)
                      clear hn0
                      have xb6 : Gb wb.heap.size wr ((w6.setCell ⟨wb.heap.size, 2, none⟩ (.slice A6 n6 c6)).alloc (.cells #[.int .i64 t, .slice none 0 0, .slice A6 n6 c6] 83)) := ((Gb.of _ (xw5.tr b6)).tr (Gb.set wb.heap.size 2 _ _)).tr (Gb.of _ ((Below.refl _ _).alloc (Nat.le_refl _) _))
                      have hrow := rowOf_geK ow
                      have hrlt := rowOf_ltK ow
                      have sW := bw.size
                      have sWr : wr.heap.size ≤ wb.heap.size := (b1.tr xq).size
                      have ow2 := ow.grown xb6 (by
                        cases hq : rowOf (.slice A n cc) with
                        | none => exact .inl rfl
                        | some r => exact .inr (fun h => by have := hrlt r hq; injection h with h; omega))
                      have nc2 := nc.map (S' := fun b => w.heap.size ≤ b ∧ rowOf (.slice A n cc) ≠ some b) (w' := (w6.setCell ⟨wb.heap.size, 2, none⟩ (.slice A6 n6 c6)).alloc (.cells #[.int .i64 t, .slice none 0 0, .slice A6 n6 c6] 83)) (fun b hb hbl => ⟨hb, xb6.block b hbl (fun h => by injection h with h; omega)⟩)
                      have hm : ∀ b, W5.heap.size ≤ b → b < w6.heap.size → (w.heap.size ≤ b ∧ rowOf (.slice A n cc) ≠ some b) ∧ ((w6.setCell ⟨wb.heap.size, 2, none⟩ (.slice A6 n6 c6)).alloc (.cells #[.int .i64 t, .slice none 0 0, .slice A6 n6 c6] 83)).heap[b]? = w6.heap[b]? := fun b hb hbl =>
                        ⟨⟨by omega, fun h => by have := hrlt b h; omega⟩, (((Below.refl _ _).alloc (Nat.le_refl _) _ : Ext (w6.setCell ⟨wb.heap.size, 2, none⟩ (.slice A6 n6 c6)) _).block b (by simpa using hbl)).trans (setCell_block (by omega))⟩
                      have r1' : RdS (fun b => w.heap.size ≤ b ∧ rowOf (.slice A n cc) ≠ some b) ((w6.setCell ⟨wb.heap.size, 2, none⟩ (.slice A6 n6 c6)).alloc (.cells #[.int .i64 t, .slice none 0 0, .slice A6 n6 c6] 83)) (.slice none 0 0) (bvs (Nd.mk t [] ks).val) := RdS.nil _
                      have r2' := nd6.map hm
                      clear nd6
                      have R := RdK.lit (w6.setCell ⟨wb.heap.size, 2, none⟩ (.slice A6 n6 c6)) 3 #[.int .i64 t, .slice none 0 0, .slice A6 n6 c6] 83 1 rfl (by unfold maxLen; omega)
                      rw [show (w6.setCell ⟨wb.heap.size, 2, none⟩ (.slice A6 n6 c6)).heap.size = w6.heap.size by simp] at R
                      have hWz : w.heap.size ≤ ((w6.setCell ⟨wb.heap.size, 2, none⟩ (.slice A6 n6 c6)).alloc (.cells #[.int .i64 t, .slice none 0 0, .slice A6 n6 c6] 83)).heap.size := Nat.le_trans sW xb6.size
                      obtain ⟨u0, u1⟩ := objX1_usedX (HR1.out.trans HRX.out)
                      rw [List.length_drop] at u1
                      obtain ⟨c10, c11⟩ := objX1_cntQ (HR1.out.trans HRX.out)
                      have hstep := objsX_ok HMO.out (HR1.out.trans HRX.out)
                      rw [List.drop_drop] at hstep
                      have HST := Lib.hid hstep
                      have hgb : Ext w ((w6.setCell ⟨wb.heap.size, 2, none⟩ (.slice A6 n6 c6)).alloc (.cells #[.int .i64 t, .slice none 0 0, .slice A6 n6 c6] 83)) := Gb.below bw xb6 (by omega)
                      have HSUM := Lib.hid (show p + (k + j + uu) = p2 + uu by have := HP1.out; have := HP2.out; omega)
                      clear hm nc ow hrow hrlt hstep
                      go_wp2_with (refine appNd (S0 := fun b => w.heap.size ≤ b) (B := w.heap.size) (t := Nd.mk t [] ks) ow2 nc2 R r1' r2' (by omega) hWz rfl rfl rfl rfl ?_; intro A7 n7 c7 w8 hn7 o8 nc8 g8 hge)
                      have HN8 := hn7.out
                      have e8 : Ext w w8 := hgb.grown g8 hWz hge
                      have hP8 : objsX qq true dep cnt L = addX (done ++ [Nd.mk t [] ks]) (p2 + uu) (objsX qq true dep c1 (L.drop (p2 + uu))) := by
                        rw [HRR.out, HP.out, HST.out, addX_addX, HSUM.out]
                      go_roundw
                      case rel => exact ⟨p2 + uu, c1, A7, n7, c7, _, done ++ [Nd.mk t [] ks], rfl, congrArg (Value.int .i64) (by omega), congrArg (Value.int .i64) (by omega), by rw [HN8]; simp, by have := HSUM.out; omega, by simp; omega, c10, e8, o8, nc8, fun h => by omega, hP8⟩
                      case measure => simp [intOf]; have := HSUM.out; omega
                  · obtain ⟨n2, rfl⟩ : ∃ n2 : Nat, nI = (n2 : Int) := ⟨nI.toNat, by omega⟩
                    have hn20 : ¬ (n2 : Int) < 0 := by omega
                    clear N34
                    have HRZ := Lib.hid (HRY0.out.trans (if_neg hneg))
                    clear HRY0 HN5 hneg
                    go_wp2_with (first
                      | (go_quiet (first
                        | (go_at_call 156; exact (HCO'.out _).mono fun _ _ ⟨h1, h2⟩ => ⟨h1, _, h2.symm⟩)
                        | (go_at_call 175; exact (refsizeX_any q qq _ (RS2.out _ (Ext.drewN_ _ _))).mono fun _ _ ⟨h1, h2⟩ => ⟨h1.trans (by rw [HZ.out]), _, h2.symm⟩)); have xq := Ext.drewN_ wa nq; generalize wa.drewN nq = wb at *))
                    have hxc5 := C3.new wb (.int .i64 t) (.slice none 0 0) (.slice none 0 0)
                    have x5 : Ext wb (wb.alloc (.cells #[.int .i64 t, .slice none 0 0, .slice none 0 0] 83)) := (Below.refl _ _).alloc (Nat.le_refl _) _
                    have hl5 := hxc5.lt
                    generalize wb.alloc (.cells #[.int .i64 t, .slice none 0 0, .slice none 0 0] 83) = W5 at *
                    have xw5 : Ext wr W5 := b1.tr (xq.tr x5)
                    refine (HCO'.out _).mono ?_
                    rintro en' w5' ⟨rfl, rfl⟩
                    obtain ⟨y0, y1, y2, yf0, yf1, yf2⟩ := hxc5.cells
                    have rs3 := ((HB.out.ext bw).ext xw5).cut p2 (p2 + n2) (by omega) (by rw [bvs_length]; have := HP1.out; have := HP2.out; omega)
                    have e3 : ((bvs L).drop p2).take (p2 + n2 - p2) = bvs ((L.drop p2).take n2) := by rw [Nat.add_sub_cancel_left]; simp [bvs, List.map_drop, List.map_take]
                    have e4 : (if c0 = p2 then some (⟨bb, o, none⟩ : Addr) else (some (⟨bb, o, none⟩ : Addr)).map (·.add p2)) = (if c0 = p2 then some (⟨bb, o, none⟩ : Addr) else some ⟨bb, o + p2, none⟩) := by simp [Addr.add_lit]
                    rw [e3, e4, Nat.add_sub_cancel_left] at rs3
                    obtain ⟨A8, hA8⟩ : ∃ A8, (if c0 = p2 then some (⟨bb, o, none⟩ : Addr) else some ⟨bb, o + p2, none⟩) = A8 := ⟨_, rfl⟩
                    rw [hA8] at rs3
                    have RS3 := Lib.hid rs3
                    clear e3 e4 rs3
                    have wpn : IntKind.i64.wrap ((p2 : Int) + (n2 : Int)) = (p2 : Int) + (n2 : Int) := IntWalk.i64_in _ (by omega)
                    have hpn : p2 + n2 ≤ c0 := by omega
                    have tpn : ((p2 : Int) + (n2 : Int)).toNat = p2 + n2 := by omega
                    have lpn : (p2 : Int) + (n2 : Int) ≤ (c0 : Int) := by omega
                    have lpn2 : (p2 : Int) ≤ (p2 : Int) + (n2 : Int) := by omega
                    have l0p : (0 : Int) ≤ (p2 : Int) := by omega
                    have l0pn : (0 : Int) ≤ (p2 : Int) + (n2 : Int) := by omega
                    have sz5 := x5.size
                    have hwb5 : wb.heap.size < W5.heap.size := hl5
                    cases q
                    · have HRX := Lib.hid (show r1 = .ok (Nd.mk t ((L.drop p2).take n2) [], c' + 1, k + j + n2) by rw [HRZ.out, if_neg (by decide), Int.toNat_natCast])
                      clear HRZ
                      go_wp2_with (first
                        | (refine appN (ys := (L.drop p2).take n2) (w0 := W5) (B := W5.heap.size) RS3.out (Below.refl _ _) (by rw [List.length_take, List.length_drop]; omega) (Nat.le_refl _) rfl rfl rfl rfl ?_; intro A6 n6 c6 w6 hn6 o6 b6 g6
                           have b6 : Ext W5 w6 := b6
                           have hxc6 := hxc5.ext b6
                           have hl6 := hxc6.lt
                           obtain ⟨z0, z1, z2, zf0, zf1, zf2⟩ := hxc6.cells
                           have xb6 : Gb wb.heap.size wr ((w6.setCell ⟨wb.heap.size, 1, none⟩ (.slice A6 n6 c6)).alloc (.cells #[.int .i64 t, .slice A6 n6 c6, .slice none 0 0] 83)) := ((Gb.of _ (xw5.tr b6)).tr (Gb.set wb.heap.size 1 _ _)).tr (Gb.of _ ((Below.refl _ _).alloc (Nat.le_refl _) _))
                           have hrow := rowOf_geK ow
                           have hrlt := rowOf_ltK ow
                           have sW := bw.size
                           have sWr : wr.heap.size ≤ wb.heap.size := (b1.tr xq).size
                           have ow2 := ow.grown xb6 (by
                             cases hq : rowOf (.slice A n cc) with
                             | none => exact .inl rfl
                             | some r => exact .inr (fun h => by have := hrlt r hq; injection h with h; omega))
                           have nc2 := nc.map (S' := fun b => w.heap.size ≤ b ∧ rowOf (.slice A n cc) ≠ some b) (w' := (w6.setCell ⟨wb.heap.size, 1, none⟩ (.slice A6 n6 c6)).alloc (.cells #[.int .i64 t, .slice A6 n6 c6, .slice none 0 0] 83)) (fun b hb hbl => ⟨hb, xb6.block b hbl (fun h => by injection h with h; omega)⟩)
                           have hm : ∀ b, W5.heap.size ≤ b → b < w6.heap.size → (w.heap.size ≤ b ∧ rowOf (.slice A n cc) ≠ some b) ∧ ((w6.setCell ⟨wb.heap.size, 1, none⟩ (.slice A6 n6 c6)).alloc (.cells #[.int .i64 t, .slice A6 n6 c6, .slice none 0 0] 83)).heap[b]? = w6.heap[b]? := fun b hb hbl =>
                             ⟨⟨by omega, fun h => by have := hrlt b h; omega⟩, (((Below.refl _ _).alloc (Nat.le_refl _) _ : Ext (w6.setCell ⟨wb.heap.size, 1, none⟩ (.slice A6 n6 c6)) _).block b (by simpa using hbl)).trans (setCell_block (by omega))⟩
                           have r1' := (RdS.of o6 (S := fun b => W5.heap.size ≤ b) (fun b h => h)).map hm
                           have r2' : NdsS (fun b => w.heap.size ≤ b ∧ rowOf (.slice A n cc) ≠ some b) (d' + 1 - 1) ((w6.setCell ⟨wb.heap.size, 1, none⟩ (.slice A6 n6 c6)).alloc (.cells #[.int .i64 t, .slice A6 n6 c6, .slice none 0 0] 83)) (.slice none 0 0) (Nd.mk t ((L.drop p2).take n2) []).kids := NdsS.nil _ _
                           clear o6 hn6
                           have R := RdK.lit (w6.setCell ⟨wb.heap.size, 1, none⟩ (.slice A6 n6 c6)) 3 #[.int .i64 t, .slice A6 n6 c6, .slice none 0 0] 83 1 rfl (by unfold maxLen; omega)
                           rw [show (w6.setCell ⟨wb.heap.size, 1, none⟩ (.slice A6 n6 c6)).heap.size = w6.heap.size by simp] at R
                           have hWz : w.heap.size ≤ ((w6.setCell ⟨wb.heap.size, 1, none⟩ (.slice A6 n6 c6)).alloc (.cells #[.int .i64 t, .slice A6 n6 c6, .slice none 0 0] 83)).heap.size := Nat.le_trans sW xb6.size
                           obtain ⟨u0, u1⟩ := objX1_usedX (HR1.out.trans HRX.out)
                           rw [List.length_drop] at u1
                           obtain ⟨c10, c11⟩ := objX1_cntQ (HR1.out.trans HRX.out)
                           have hstep := objsX_ok HMO.out (HR1.out.trans HRX.out)
                           rw [List.drop_drop] at hstep
                           have HST := Lib.hid hstep
                           have hgb : Ext w ((w6.setCell ⟨wb.heap.size, 1, none⟩ (.slice A6 n6 c6)).alloc (.cells #[.int .i64 t, .slice A6 n6 c6, .slice none 0 0] 83)) := Gb.below bw xb6 (by omega)
                           have HSUM := Lib.hid (show p + (k + j + n2) = p2 + n2 by have := HP1.out; have := HP2.out; omega)
                           clear hm nc ow hrow hrlt hstep)
                        | (refine appNd (S0 := fun b => w.heap.size ≤ b) (B := w.heap.size) (t := Nd.mk t ((L.drop p2).take n2) []) ow2 nc2 R r1' r2' (by omega) hWz rfl rfl rfl rfl ?_; intro A7 n7 c7 w8 hn7 o8 nc8 g8 hge))
                      have HN8 := hn7.out
                      have e8 : Ext w w8 := hgb.grown g8 hWz hge
                      have hP8 : objsX qq true dep cnt L = addX (done ++ [Nd.mk t ((L.drop p2).take n2) []]) (p2 + n2) (objsX qq true dep (c' + 1) (L.drop (p2 + n2))) := by
                        rw [HRR.out, HP.out, HST.out, addX_addX, HSUM.out]
                      go_roundw
                      case rel => exact ⟨p2 + n2, (c' + 1), A7, n7, c7, _, done ++ [Nd.mk t ((L.drop p2).take n2) []], rfl, congrArg (Value.int .i64) (by omega), congrArg (Value.int .i64) (by omega), by rw [HN8]; simp, by have := HSUM.out; omega, by simp; omega, c10, e8, o8, nc8, fun h => by omega, hP8⟩
                      case measure => simp [intOf]; have := HSUM.out; omega
                    · have hO := (HH.out d' rfl).1 W5 _ _ (c' + 1) RS3.out (by rw [List.length_take, List.length_drop]; omega) (by omega)
                      rw [show (9 : Int) - (d' : Int) = dep + 1 by have := HDEP.out; omega, show ((c' + 1 : Nat) : Int) = (c' : Int) + 1 by omega] at hO
                      have HRX0 := Lib.hid (HRZ.out.trans (if_pos rfl))
                      clear HRZ
                      have HO := Lib.hid hO
                      clear hO
                      go_wp2_with fail
                      refine HO.out.mono ?_
                      rintro en w6 ⟨b6, hx⟩
                      have hxc6 : C3 w6 wb.heap.size (.int .i64 t) (.slice none 0 0) (.slice none 0 0) := hxc5.ext b6
                      have hl6 := hxc6.lt
                      clear y0 y1 y2 yf0 yf1 yf2
                      obtain ⟨y0, y1, y2, yf0, yf1, yf2⟩ := hxc6.cells
                      rcases hx with ⟨A6, n6, c6, x, y, kk, hn0, hkk, rfl⟩ | ⟨ks, c1, uu, A6, n6, c6, hn0, rfl, nd6⟩
                      · have hkk2 : (kk != 0) = true := by simpa using hkk
                        have HNO := Lib.hid (HNE.out kk (by rw [HRX0.out, Int.toNat_natCast, hn0]))
                        clear hn0
                        go_wp2_with fail
                        refine bodyPost_ret (v := .tuple #[.slice none 0 0, .int .i64 0, .int .i64 0, .int .i64 kk]) ?_ rfl (listQ_no hkk HNO.out (((bw.tr xw5).tr b6).setCell (p := ⟨wb.heap.size, 2, none⟩) (by have := (b1.tr xq).size; have := bw.size; show w.heap.size ≤ wb.heap.size; omega) _))
                        simp [results, Tryz.results149, go_sem]
                      · have HRX := Lib.hid (show r1 = .ok (Nd.mk t [] ks, c1, k + j + n2) by rw [HRX0.out, Int.toNat_natCast, hn0])
                        clear hn0
                        have xb6 : Gb wb.heap.size wr ((w6.setCell ⟨wb.heap.size, 2, none⟩ (.slice A6 n6 c6)).alloc (.cells #[.int .i64 t, .slice none 0 0, .slice A6 n6 c6] 83)) := ((Gb.of _ (xw5.tr b6)).tr (Gb.set wb.heap.size 2 _ _)).tr (Gb.of _ ((Below.refl _ _).alloc (Nat.le_refl _) _))
                        have hrow := rowOf_geK ow
                        have hrlt := rowOf_ltK ow
                        have sW := bw.size
                        have sWr : wr.heap.size ≤ wb.heap.size := (b1.tr xq).size
                        have ow2 := ow.grown xb6 (by
                          cases hq : rowOf (.slice A n cc) with
                          | none => exact .inl rfl
                          | some r => exact .inr (fun h => by have := hrlt r hq; injection h with h; omega))
                        have nc2 := nc.map (S' := fun b => w.heap.size ≤ b ∧ rowOf (.slice A n cc) ≠ some b) (w' := (w6.setCell ⟨wb.heap.size, 2, none⟩ (.slice A6 n6 c6)).alloc (.cells #[.int .i64 t, .slice none 0 0, .slice A6 n6 c6] 83)) (fun b hb hbl => ⟨hb, xb6.block b hbl (fun h => by injection h with h; omega)⟩)
                        have hm : ∀ b, W5.heap.size ≤ b → b < w6.heap.size → (w.heap.size ≤ b ∧ rowOf (.slice A n cc) ≠ some b) ∧ ((w6.setCell ⟨wb.heap.size, 2, none⟩ (.slice A6 n6 c6)).alloc (.cells #[.int .i64 t, .slice none 0 0, .slice A6 n6 c6] 83)).heap[b]? = w6.heap[b]? := fun b hb hbl =>
                          ⟨⟨by omega, fun h => by have := hrlt b h; omega⟩, (((Below.refl _ _).alloc (Nat.le_refl _) _ : Ext (w6.setCell ⟨wb.heap.size, 2, none⟩ (.slice A6 n6 c6)) _).block b (by simpa using hbl)).trans (setCell_block (by omega))⟩
                        have r1' : RdS (fun b => w.heap.size ≤ b ∧ rowOf (.slice A n cc) ≠ some b) ((w6.setCell ⟨wb.heap.size, 2, none⟩ (.slice A6 n6 c6)).alloc (.cells #[.int .i64 t, .slice none 0 0, .slice A6 n6 c6] 83)) (.slice none 0 0) (bvs (Nd.mk t [] ks).val) := RdS.nil _
                        have r2' := nd6.map hm
                        clear nd6
                        have R := RdK.lit (w6.setCell ⟨wb.heap.size, 2, none⟩ (.slice A6 n6 c6)) 3 #[.int .i64 t, .slice none 0 0, .slice A6 n6 c6] 83 1 rfl (by unfold maxLen; omega)
                        rw [show (w6.setCell ⟨wb.heap.size, 2, none⟩ (.slice A6 n6 c6)).heap.size = w6.heap.size by simp] at R
                        have hWz : w.heap.size ≤ ((w6.setCell ⟨wb.heap.size, 2, none⟩ (.slice A6 n6 c6)).alloc (.cells #[.int .i64 t, .slice none 0 0, .slice A6 n6 c6] 83)).heap.size := Nat.le_trans sW xb6.size
                        obtain ⟨u0, u1⟩ := objX1_usedX (HR1.out.trans HRX.out)
                        rw [List.length_drop] at u1
                        obtain ⟨c10, c11⟩ := objX1_cntQ (HR1.out.trans HRX.out)
                        have hstep := objsX_ok HMO.out (HR1.out.trans HRX.out)
                        rw [List.drop_drop] at hstep
                        have HST := Lib.hid hstep
                        have hgb : Ext w ((w6.setCell ⟨wb.heap.size, 2, none⟩ (.slice A6 n6 c6)).alloc (.cells #[.int .i64 t, .slice none 0 0, .slice A6 n6 c6] 83)) := Gb.below bw xb6 (by omega)
                        have HSUM := Lib.hid (show p + (k + j + n2) = p2 + n2 by have := HP1.out; have := HP2.out; omega)
                        clear hm nc ow hrow hrlt hstep
                        go_wp2_with (refine appNd (S0 := fun b => w.heap.size ≤ b) (B := w.heap.size) (t := Nd.mk t [] ks) ow2 nc2 R r1' r2' (by omega) hWz rfl rfl rfl rfl ?_; intro A7 n7 c7 w8 hn7 o8 nc8 g8 hge)
                        have HN8 := hn7.out
                        have e8 : Ext w w8 := hgb.grown g8 hWz hge
                        have hP8 : objsX qq true dep cnt L = addX (done ++ [Nd.mk t [] ks]) (p2 + n2) (objsX qq true dep c1 (L.drop (p2 + n2))) := by
                          rw [HRR.out, HP.out, HST.out, addX_addX, HSUM.out]
                        go_roundw
                        case rel => exact ⟨p2 + n2, c1, A7, n7, c7, _, done ++ [Nd.mk t [] ks], rfl, congrArg (Value.int .i64) (by omega), congrArg (Value.int .i64) (by omega), by rw [HN8]; simp, by have := HSUM.out; omega, by simp; omega, c10, e8, o8, nc8, fun h => by omega, hP8⟩
                        case measure => simp [intOf]; have := HSUM.out; omega
    · obtain rfl : p = L.length := by omega
      have HNO := Lib.hid (show r = .error 6 by rw [HP.out]; exact addX_err (objsX_u0 (.inl (Nat.le_refl _))))
      go_wp2
      refine bodyPost_ret (v := .tuple #[.slice none 0 0, .int .i64 0, .int .i64 0, .int .i64 6]) ?_ rfl (listQ_no (by decide) HNO.out bw)
      simp [results, Tryz.results149, go_sem]
end Go.Proofs.YthbpdhanljpigaaGreatDoor
namespace Go.Proofs.YthbpdhanljpigaaGreatDoor
open Go.RowKit
set_option linter.unusedVariables false
set_option maxRecDepth 100000
theorem listq_all (q : Bool) : ∀ d, d ≤ 9 → ListOkQ q false d ∧ ListOkQ q true d
  | 0, h =>
    ⟨listq_false h fun d' e => by omega, listq_true h fun d' e => by omega⟩
  | d + 1, h =>
    have o := listq_all q d (by omega)
    ⟨listq_false h fun d' e => by obtain rfl : d' = d := by omega
                                  exact o, listq_true h fun d' e => by obtain rfl : d' = d := by omega
                                                                       exact o⟩
set_option maxHeartbeats 1000000 in
theorem refparseq_any {a : Value} {l : List UInt8} (q : Bool) (w : World) (ha : Rd w a (bvs l)) : Calls Tryz.prog 102 #[a, .bool q] w (ParQ w 8 (parX q l)) := by
  have ha0 := ha
  obtain ⟨A, n, c, rfl, hn, hnc, hcm, _⟩ := ha.bytes
  subst hn
  unfold maxLen at hcm
  clear ha
  have HA := Lib.hid ha0
  clear ha0
  by_cases h : 4096 < l.length
  · have HP := Lib.hid (show parX q l = .error 2 from if_pos h)
    have h' : (4096 : Int) < (l.length : Int) := by omega
    go_enter Tryz.func102, Tryz.ntmps102
    go_wp2
    go_ret2
    exact ⟨Below.refl _ _, .inl ⟨none, 0, 0, 2, HP.out, by decide, rfl⟩⟩
  · have HP := Lib.hid h
    have h' : ¬ (4096 : Int) < (l.length : Int) := by omega
    have hO := (listq_all q 8 (by omega)).1 w _ l 0 HA.out (by omega) (by omega)
    have HO := Lib.hid hO
    clear hO
    go_enter Tryz.func102, Tryz.ntmps102
    go_wp2_with fail
    refine HO.out.mono ?_
    rintro en w2 ⟨e2, hx⟩
    rcases hx with ⟨A', n', c', x, y, k, hn, hk, rfl⟩ | ⟨ts, k, u, A', n', cc, hn, rfl, nd⟩
    · have HN := Lib.hid (parX_err HP.out hn)
      clear hn
      go_wp2_with fail
      go_ret2
      exact ⟨e2, .inl ⟨A', n', c', k, HN.out, hk, rfl⟩⟩
    · have HN := Lib.hid (parX_yes HP.out hn)
      have HD := Lib.hid nd.rd
      clear hn nd
      go_wp2_with fail
      go_ret2
      exact ⟨e2, .inr ⟨ts, A', n', cc, HN.out, rfl, HD.out⟩⟩
end Go.Proofs.YthbpdhanljpigaaGreatDoor
