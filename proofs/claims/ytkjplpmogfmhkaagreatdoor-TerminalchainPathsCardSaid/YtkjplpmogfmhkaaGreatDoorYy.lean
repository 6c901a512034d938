/- Layer 26: trusts made of numbers: Trust. -/
import Derived.Test.YtkjplpmogfmhkaaGreatDoorYz
namespace Go.Proofs.YtkjplpmogfmhkaaGreatDoor
open Go.RowKit
set_option linter.unusedVariables false
set_option maxRecDepth 100000

/-- What Trust returns. -/
def TrustR (w : World) (e : Ending) (w' : World) : Prop := Ext w w' ∧ ∃ (t : TR) (A : Option Addr) (n c : Nat), e = .returned (.agg #[.slice A n c, .int .i64 t.dt]) ∧ SafeK w' 0 139 5 (.slice A n c) (tpsCells t.ps) ∧ smR t.ps ∧ t.ps.length ≤ 2
set_option maxHeartbeats 8000000 in
theorem trust26_any {v : Value} {l : List Int} (w : World) (h : RdI w .i64 v l) (hw : ∀ x ∈ l, wf64 x) (hl : l.length ≤ 1000) : Calls Tryz.prog 27 #[v] w (TrustR w) := by
  obtain ⟨wa, hwa, ea, Ta⟩ := tr_alloc w none 0 0 0
  go_enter Tryz.func27, Tryz.ntmps27
  go_wp2_with fail
  rw [← hwa]
  have sa : wa.heap.size = w.heap.size + 1 := by rw [hwa]; exact Array.size_push _
  clear hwa
  refine (roll_any wa (h.ext ea) hw hl).mono ?_
  rintro e w1 ⟨D, b, rfl, hD, hb, hd, b1⟩
  go_wp2_with fail
  refine (next_any 40 w1 hd (by omega)).mono ?_
  rintro e w2 ⟨rfl, g2, d2, z2⟩
  have x2 : Ext w w2 := Gb.below (ea.tr b1) g2 (by omega)
  have hDB := d2.lt
  have hbB := d2.ltb
  have z0 := (dv_bd l (n := 40) (by omega))
  have Tz : TrAt w2 w.heap.size none 0 0 0 := (g2.block _ (Ta.ext b1).lt (fun q => by injection q; omega)).trans (Ta.ext b1)
  generalize dv l 40 = z at *
  obtain ⟨z0, z1⟩ := z0
  obtain ⟨wg, hwg, eg, Tg⟩ := tr_alloc w2 none 0 0 (30 + z)
  have sg : wg.heap.size = w2.heap.size + 1 := by rw [hwg]; exact Array.size_push _
  have S0 : TuS w wg.heap.size D b [] none 0 0 (30 + z) w2.heap.size wg := ⟨⟨_, d2.ext eg⟩, Tz.ext eg, Tg, OwnK.empty _ _ _ _ _, x2.tr eg, Nat.le_refl _⟩
  have HS0 := Lib.hid S0
  have hD0 : w.heap.size < D := by omega
  have hDg : w2.heap.size ≠ D := by omega
  have hDB' : D < wg.heap.size := by omega
  have HB := Lib.hid (show b < wg.heap.size ∧ w2.heap.size < wg.heap.size ∧ w.heap.size < w2.heap.size ∧ D ≠ w2.heap.size ∧ b ≠ w2.heap.size from ⟨by omega, by omega, by omega, by omega, by omega⟩)
  clear g2 d2 z2 x2 Tz Tg S0 Ta ea hd hb b1 h eg
  go_upto_region 3 with fail
  rw [← hwg]
  clear hwg hw sa sg hl hD hDB hbB z0 z1
  go_cut [] from 11 to 23 (fun wx => ∃ (p : TP) (A : Option Addr) (c : Nat), p.ho.length ≤ maxLen ∧ TuS w wg.heap.size D b [p] A 1 c (30 + z) w2.heap.size wx)
  case first =>
    obtain ⟨t0, t1⟩ := HS0.out.t.cells
    have tf := HS0.out.t.frozen 0
    have tl := HS0.out.t.lt
    have SH := HS0
    obtain ⟨h1, HH1⟩ : ∃ h1 : Int, Hid (∀ W, Calls Tryz.prog 112 #[.string ⟨#[82, 79, 79, 84, 49]⟩] W fun e w' => e = .returned (.int .i64 h1) ∧ W = w') := ⟨_, Lib.hid (fun W => holder_any _ W (by decide))⟩
    go_region_with (first | (go_at_call 112; refine (HH1.out _).mono ?_; rintro e _ ⟨rfl, rfl⟩) | (go_at_call 111; refine (tuNext _ (by omega) (by omega) hDB' hD0 hDg (SH.out.tr (by first | exact Below.refl _ _ | exact (Below.refl _ _).drew | exact Ext.drewN_ _ _))).mono ?_; rintro e wi ⟨zi, zi0, zi1, rfl, SI⟩; clear t0 t1 tf tl SH; have SH := Lib.hid SI; clear SI; obtain ⟨t0, t1⟩ := SH.out.t.cells; have tf := SH.out.t.frozen 0; have tl := SH.out.t.lt))
    all_goals (go_wp2_with fail; go_meet; exact ⟨tpC ⟨#[82, 79, 79, 84, 49]⟩ _ _ _ _, _, _, (by show 5 ≤ maxLen; unfold maxLen; omega), SH.out.app1 hDB' HB.out _ _ _ _ _⟩)
  case rest =>
  obtain ⟨p, A, c, hp, S1⟩ := hcut
  have HP := Lib.hid hp
  have hw0 : w.heap.size < wg.heap.size := by have := HB.out; omega
  have HS1 := Lib.hid S1
  clear hp S1 HS0
  go_wp2_with fail
  refine (tuNext 3 (by omega) (by omega) hDB' hD0 hDg HS1.out).mono ?_
  rintro e w4 ⟨z3, y0, y1, rfl, S4⟩
  have HS4 := Lib.hid S4
  clear S4 HS1 y0 y1
  by_cases h1 : z3 = 1
  · have hb1 : (z3 == 1) = true := by simp [h1]
    clear h1
    go_upto_region 5 with fail
    go_cut [] from 27 to 38 (fun wx => ∃ (q : TP) (A : Option Addr) (c : Nat), q.ho.length ≤ maxLen ∧ TuS w wg.heap.size D b [p, q] A 2 c (30 + z) w2.heap.size wx)
    case first =>
      obtain ⟨t0, t1⟩ := HS4.out.t.cells
      have tf := HS4.out.t.frozen 0
      have tl := HS4.out.t.lt
      have SH := HS4
      obtain ⟨h1, HH1⟩ : ∃ h1 : Int, Hid (∀ W, Calls Tryz.prog 112 #[.string ⟨#[82, 79, 79, 84, 50]⟩] W fun e w' => e = .returned (.int .i64 h1) ∧ W = w') := ⟨_, Lib.hid (fun W => holder_any _ W (by decide))⟩
      go_region_law (first | (refine step_callSame 112 [.string ⟨#[82, 79, 79, 84, 50]⟩] rfl rfl rfl (by kernel_rfl) rfl (HH1.out _) ?_) | (refine tuStep _ ?_ ?_ hDB' hD0 hDg (SH.out.tr (by first | exact Below.refl _ _ | exact (Below.refl _ _).drew | exact Ext.drewN_ _ _)) rfl rfl rfl rfl ?_; omega; omega; intro zi wi zi0 zi1 SI; clear t0 t1 tf tl SH; have SH := Lib.hid SI; clear SI; obtain ⟨t0, t1⟩ := SH.out.t.cells; have tf := SH.out.t.frozen 0; have tl := SH.out.t.lt; obtain ⟨fA, fc, fw, HAP, HAR⟩ := app2F wi SH.out.row SH.out.size; have HAC := fun ty s k r f t => (SH.out.atG HB.out.2.1 (HAR.out ty s k r f t).2).cells.1; have HAF := fun ty s k r f t => (SH.out.atG HB.out.2.1 (HAR.out ty s k r f t).2).frozen 0) | (refine step_app rfl (.slice A 1 c) (.slice (some ⟨_, 0, none⟩) 1 1) rfl rfl rfl (HAP _ _ _ _ _ _) ?_))
      all_goals (go_wp2_with fail; go_meet; exact ⟨tpC ⟨#[82, 79, 79, 84, 50]⟩ _ _ _ _, _, _, (by show 5 ≤ maxLen; unfold maxLen; omega), SH.out.app hDB' HB.out.1 HB.out.2.1 HB.out.2.2.1 HB.out.2.2.2.1 HB.out.2.2.2.2 (HAR.out _ _ _ _ _ _).1 (HAR.out _ _ _ _ _ _).2⟩)
    case rest =>
    obtain ⟨q, A2, c2, hq, S5⟩ := hcut
    have HS5 := Lib.hid S5
    have HQ := Lib.hid hq
    obtain ⟨t0, t1⟩ := S5.t.cells
    have tl := S5.t.lt
    obtain ⟨x0, x1⟩ := S5.z.cells
    have xf0 := S5.z.frozen 0
    have xf1 := S5.z.frozen 1
    have xl := S5.z.lt
    have hne : w2.heap.size ≠ w.heap.size := by have := HB.out; omega
    clear S5 hq
    go_wp2_with fail
    have FIN := Lib.hid (HS5.out.fin hw0 (.slice A2 2 c2) (.int .i64 (30 + z)))
    have FT := (HS5.out.z.setPs (A' := A2) (n' := 2) (c' := c2)).setDt (30 + z)
    refine bodyPost_ret (v := .agg #[.slice A2 2 c2, .int .i64 (30 + z)]) ?_ rfl ⟨FIN.out.1, ⟨[p, q], 30 + z⟩, A2, 2, c2, rfl, FIN.out.2, fun u hu => by
      rcases List.mem_cons.1 hu with rfl | hu
      · exact HP.out
      · rw [List.mem_singleton.1 hu]; exact HQ.out, by show 2 ≤ 2; omega⟩
    obtain ⟨q0, q1⟩ := FT.cells
    clear t0 t1 tl x0 x1 xf0 xf1 xl
    simp [results, Tryz.results27, go_sem, q0, q1]
  · have hb1 : (z3 == 1) = false := by simpa using h1
    clear h1
    obtain ⟨t0, t1⟩ := HS4.out.t.cells
    have tl := HS4.out.t.lt
    obtain ⟨x0, x1⟩ := HS4.out.z.cells
    have xf0 := HS4.out.z.frozen 0
    have xf1 := HS4.out.z.frozen 1
    have xl := HS4.out.z.lt
    have hne : w2.heap.size ≠ w.heap.size := by have := HB.out; omega
    go_wp2_with fail
    have FIN := Lib.hid (HS4.out.fin hw0 (.slice A 1 c) (.int .i64 (30 + z)))
    have FT := (HS4.out.z.setPs (A' := A) (n' := 1) (c' := c)).setDt (30 + z)
    refine bodyPost_ret (v := .agg #[.slice A 1 c, .int .i64 (30 + z)]) ?_ rfl ⟨FIN.out.1, ⟨[p], 30 + z⟩, A, 1, c, rfl, FIN.out.2, fun u hu => by
      rw [List.mem_singleton.1 hu]; exact HP.out, by show 1 ≤ 2; omega⟩
    obtain ⟨q0, q1⟩ := FT.cells
    clear t0 t1 tl x0 x1 xf0 xf1 xl
    simp [results, Tryz.results27, go_sem, q0, q1]
end Go.Proofs.YtkjplpmogfmhkaaGreatDoor
