/- Parts De La of the proof. -/
import Derived.Test.YteilglpdmfiinaaGreatDoorPkj
import Derived.Test.YteilglpdmfiinaaGreatDoorPkh
import Derived.Test.YteilglpdmfiinaaGreatDoorMl
namespace Go.Proofs.YteilglpdmfiinaaGreatDoor
open Go.RowKit
set_option linter.unusedVariables false
set_option maxRecDepth 100000

theorem RetV.gb {w w' : World} {l : List UInt8} {e : Ending} (h : RetV w l e w') : ∃ v, e = .returned v ∧ Ext w w' ∧ GB l v w' := by
  obtain ⟨A, n, c, h1, h2, h3, h4⟩ := h
  exact ⟨_, h1, h4, A, n, c, rfl, h2, h3⟩
theorem value_gb {d : Nat} {W : World} {v pv : Value} {ts : List Nd} (path : List Int) (h : path.length ≤ 1000) (hr : NdsRd d W v ts) (hp : RdI W .i64 pv path) : Calls Tryz.prog 75 #[v, pv] W fun e w'' => ∃ u, e = .returned u ∧ Ext W w'' ∧ GB (valN ts path) u w'' :=
  (refvalue_any W hr hp h).mono fun _ _ h => h.gb
theorem run_buildTc (W : World) (s0 s1 : ByteArray) (z2 z3 z4 z5 z6 z7 z8 : Int) : (Instr.build 27 [(0, .string s0), (1, .string s1), (2, .int .i64 z2), (3, .int .i64 z3), (4, .int .i64 z4), (5, .int .i64 z5), (6, .int .i64 z6), (7, .agg #[.int .i64 z7, .int .i64 z8])].toArray).run Tryz.prog W = .ok (.agg #[.string s0, .string s1, .int .i64 z2, .int .i64 z3, .int .i64 z4, .int .i64 z5, .int .i64 z6, .int .i64 z7, .int .i64 z8]) W := run_build W _ _ _ (by kernel_rfl)
theorem run_allocTc (W : World) : (Instr.alloc 27 true (.tuple #[])).run Tryz.prog W = .ok (.pointer (some ⟨W.heap.size, 0, none⟩)) (W.alloc (.cells #[.string ⟨#[]⟩, .string ⟨#[]⟩, .int .i64 0, .int .i64 0, .int .i64 0, .int .i64 0, .int .i64 0, .int .i64 0, .int .i64 0] 27)) := by go_simp
/-- A new certificate, all zero. -/
def GZ (B : Nat) : VPred := fun v w => ∃ g, v = .pointer (some ⟨g, 0, none⟩) ∧ B ≤ g ∧ TcAt w g zeroT
theorem stable_GZ (B : Nat) : StableP (GZ B) := fun v w w' e ⟨g, h1, h2, h3⟩ => ⟨g, h1, h2, h3.ext e⟩
section
open Go.Proofs.YteilglpdmfiinaaGreatDoor.Gd (GRun)
variable {ops : Array Oper} {Q : Exit → Act → World → Prop} {w0 : World} {R : Act → World → Prop}
theorem Gd.wpX_allocTc {o : Oper} {rest : List Oper} {a : Act} {hs : List (Nat × VPred)} {d : Nat} (hg : GRun ops o a hs)
    (hd : o.dst = some d) (hz : Nat.blt d a.tmps.size = true) (ho : o.op = .alloc 27) (hin : (opTmps o).all (fun t => Nat.blt t a.tmps.size) = true)
    (hr : Gd.wpX Tryz.prog ops Q w0 R rest (a.put (some d) undef) ((d, GZ w0.heap.size) :: hs)) : Gd.wpX Tryz.prog ops Q w0 R (o :: rest) a hs :=
  Gd.wpX_newL hg (GZ w0.heap.size) (stable_GZ _) (fun _ => Instr.alloc 27 true (.tuple #[])) hd hz (by unfold notSelect; rw [ho]) hin (fun f => by unfold execOp; simp only [ho])
    (fun m f hf => ⟨_, _, run_allocTc m.1, (Below.refl _ _).alloc (Nat.le_refl _) _, _, rfl, m.2.size, TcAt.new m.1 zeroT⟩) hr
end
theorem xR_no1 {ts : List Nd} (h : ¬ dcK (valN ts pS) = 0) : xR ts = none := if_neg (fun q => h q.1)
theorem xR_no2 {ts : List Nd} (h : ¬ (valN ts pR).length = 3) : xR ts = none := if_neg (fun q => h q.2)
set_option maxHeartbeats 4000000 in
theorem reftdecode_any {a : Value} {l : List UInt8} (w : World) (ha : Rd w a (bvs l)) (hl : l.length ≤ 4096) :
    Calls Tryz.prog 18 #[a] w (RetQ w (.tuple #[tcV (dtC l), .int .i64 (dtK l)])) := by
  have HD := Lib.hid (dt_by (x := xR) (fun c h => xR_cert h) l)
  obtain ⟨wz, hwz, z0, zr⟩ := zero_alloc w
  obtain ⟨aA, an, ac, rfl, han, z1⟩ := ha.bytes
  subst han
  have HA := Lib.hid ha
  clear ha z1
  go_enter Tryz.func18, Tryz.ntmps18
  go_wp2_with fail
  rw [← hwz]
  clear hwz
  refine (refparse_any wz (HA.out.ext z0)).mono ?_
  rintro e w1 ⟨b1, hp⟩
  rw [show parP l = objsP 1 0 l from if_neg (by omega)] at hp
  have x1 := z0.tr b1
  have zr1 := zr.ext b1
  clear zr z0 b1
  rcases hp with ⟨hnone, A, n, c, k, hk, rfl⟩ | ⟨ts, cnt, A, n, cp, hsome, rfl, hr⟩
  · have HC := HD.out.2.2.2 hnone
    have hb : (k != 0) = true := by simpa using hk
    clear hnone HD hk
    have TZ : TcAt (set9 w1 w.heap.size (.string ⟨#[]⟩) (.string ⟨#[]⟩) (.int .i64 0) (.int .i64 0) (.int .i64 0) (.int .i64 0) (.int .i64 0) (.int .i64 0) (.int .i64 0)) w.heap.size zeroT := (zr1).setT zeroT
    have hlr := (zr1).lt
    obtain ⟨r0, r1, r2, r3, r4, r5, r6, r7, r8⟩ := (zr1).cells
    have g0 := (zr1).frozen 0
    have g1 := (zr1).frozen 1
    have g2 := (zr1).frozen 2
    have g3 := (zr1).frozen 3
    have g4 := (zr1).frozen 4
    have g5 := (zr1).frozen 5
    have g6 := (zr1).frozen 6
    have g7 := (zr1).frozen 7
    have g8 := (zr1).frozen 8
    go_wp2_with fail
    refine bodyPost_ret (v := .tuple #[tcV zeroT, .int .i64 1]) ?_ rfl ⟨by rw [HC.1, HC.2], ext_setT (x1) (Nat.le_refl _) zeroT⟩
    obtain ⟨q0, q1, q2, q3, q4, q5, q6, q7, q8⟩ := TZ.cells
    clear r0 r1 r2 r3 r4 r5 r6 r7 r8
    simp [results, Tryz.results18, go_sem, tcV, q0, q1, q2, q3, q4, q5, q6, q7, q8]
  · have hsz := objsP_sz l.length l 8 0 1 ts cnt (Nat.le_refl _) hl (by omega) (by omega) hsome
    have HS := Lib.hid hsz
    have HR := Lib.hid hr
    have HO := Lib.hid hsome
    clear hr hsome hsz
    have e1 : Ext w1 (w1.alloc (.cells #[.int .i64 32545, .int .i64 32590, .int .i64 32588, .int .i64 83] 3)) := (Below.refl _ _).alloc (Nat.le_refl _) _
    go_wp2_with fail
    refine (refvalue_any (d := 8) (ts := ts) (path := pR) _ (HR.out.ext e1) (rdi4 w1 32545 32590 32588 83) (by simp [pR])).mono ?_
    rintro e w2 ⟨Ar, nr, cr, rfl, hnr, rr, b2⟩
    have x12 := e1.tr b2
    clear e1 b2
    have e4 : Ext w2 (w2.alloc (.cells #[.int .i64 32545, .int .i64 24375] 3)) := (Below.refl _ _).alloc (Nat.le_refl _) _
    go_wp2_with fail
    refine (refvalue_any (d := 8) (ts := ts) (path := pS) _ (HR.out.ext (x12.tr e4)) (rdi2 w2 32545 24375) (by simp [pS])).mono ?_
    rintro e w3 ⟨As, ns, cs, rfl, hns, rs, b3⟩
    have x23 := e4.tr b3
    clear e4 b3
    go_wp2_with fail
    refine (refdecode_any _ rs).mono ?_
    rintro e w4 ⟨rfl, b4⟩
    unfold sgV
    obtain ⟨w5, hw5, s5⟩ := sg_alloc w4 (dcE (valN ts pS)) (dcS (valN ts pS))
    have hw5' := hw5.symm
    have x25 := (x23.tr b4).tr s5.ext
    have x15 := x12.tr x25
    have zr5 := zr1.ext x15
    have x5 := x1.tr x15
    have HR5 := Lib.hid (HR.out.ext x15)
    have s0 := s5.c0
    have s1 := s5.c1
    have hls := s5.lt
    clear hw5 s5 x23 b4 rs hns HR zr1
    by_cases hds : dcK (valN ts pS) = 0
    case neg =>
      have HC := HD.out.2.2.1 ts cnt HO.out (xR_no1 hds)
      have hb : (dcK (valN ts pS) != 0) = true := by simpa using hds
      clear HD hds rr hnr
      have TZ : TcAt (set9 w5 w.heap.size (.string ⟨#[]⟩) (.string ⟨#[]⟩) (.int .i64 0) (.int .i64 0) (.int .i64 0) (.int .i64 0) (.int .i64 0) (.int .i64 0) (.int .i64 0)) w.heap.size zeroT := (zr5).setT zeroT
      have hlr := (zr5).lt
      obtain ⟨r0, r1, r2, r3, r4, r5, r6, r7, r8⟩ := (zr5).cells
      have g0 := (zr5).frozen 0
      have g1 := (zr5).frozen 1
      have g2 := (zr5).frozen 2
      have g3 := (zr5).frozen 3
      have g4 := (zr5).frozen 4
      have g5 := (zr5).frozen 5
      have g6 := (zr5).frozen 6
      have g7 := (zr5).frozen 7
      have g8 := (zr5).frozen 8
      go_wp2_with fail
      refine bodyPost_ret (v := .tuple #[tcV zeroT, .int .i64 1]) ?_ rfl ⟨by rw [HC.1, HC.2], ext_setT (x5) (Nat.le_refl _) zeroT⟩
      obtain ⟨q0, q1, q2, q3, q4, q5, q6, q7, q8⟩ := TZ.cells
      clear r0 r1 r2 r3 r4 r5 r6 r7 r8
      simp [results, Tryz.results18, go_sem, tcV, q0, q1, q2, q3, q4, q5, q6, q7, q8]
    case pos =>
    by_cases h3 : (valN ts pR).length = 3
    case neg =>
      have HC := HD.out.2.2.1 ts cnt HO.out (xR_no2 h3)
      have hb : ((nr : Int) != 3) = true := by have := hnr.out; simp; omega
      rw [hds]
      clear HD hds rr hnr h3
      have TZ : TcAt (set9 w5 w.heap.size (.string ⟨#[]⟩) (.string ⟨#[]⟩) (.int .i64 0) (.int .i64 0) (.int .i64 0) (.int .i64 0) (.int .i64 0) (.int .i64 0) (.int .i64 0)) w.heap.size zeroT := (zr5).setT zeroT
      have hlr := (zr5).lt
      obtain ⟨r0, r1, r2, r3, r4, r5, r6, r7, r8⟩ := (zr5).cells
      have g0 := (zr5).frozen 0
      have g1 := (zr5).frozen 1
      have g2 := (zr5).frozen 2
      have g3 := (zr5).frozen 3
      have g4 := (zr5).frozen 4
      have g5 := (zr5).frozen 5
      have g6 := (zr5).frozen 6
      have g7 := (zr5).frozen 7
      have g8 := (zr5).frozen 8
      go_wp2_with fail
      refine bodyPost_ret (v := .tuple #[tcV zeroT, .int .i64 1]) ?_ rfl ⟨by rw [HC.1, HC.2], ext_setT (x5) (Nat.le_refl _) zeroT⟩
      obtain ⟨q0, q1, q2, q3, q4, q5, q6, q7, q8⟩ := TZ.cells
      clear r0 r1 r2 r3 r4 r5 r6 r7 r8
      simp [results, Tryz.results18, go_sem, tcV, q0, q1, q2, q3, q4, q5, q6, q7, q8]
    case pos =>
      obtain rfl : nr = 3 := by have := hnr.out; omega
      have hxr := show xR ts = _ from if_pos ⟨hds, h3⟩
      rw [hds]
      have H3 := Lib.hid h3
      obtain ⟨A', n', c', e, hn, hnc, hcm, hA⟩ := rr.bytes
      injection e with e1 e2 e3
      subst e1 e3
      obtain ⟨rb, ro, rfl, hrb, hcell⟩ := hA (by omega)
      have hrc := hcell 0 (by omega)
      rw [Nat.add_zero] at hrc
      have hc1 : ¬ cr = 1 := by omega
      have HR1 := Lib.hid ((rr.dropB 1 (by omega)).ext x25)
      have l2 := x25.size
      have hrb2 : rb < w5.heap.size := by omega
      have hrc5 := (x25.cell (p := ⟨rb, ro, none⟩) hrb).trans hrc
      obtain ⟨c, hcd⟩ : ∃ c : TC, c = ⟨valN ts pA, valN ts pH, smallN (valN ts pK), byteI (valN ts pR) 0, num ((valN ts pR).drop 1), smallN (valN ts pF), smallN (valN ts pT), dcE (valN ts pS), dcS (valN ts pS)⟩ := ⟨_, rfl⟩
      have HM := Lib.hid (show smT c by rw [hcd]; exact ⟨valN_len pA 8 ts HS.out, valN_len pH 8 ts HS.out⟩)
      have HX := Lib.hid (hxr.trans (congrArg some hcd.symm))
      have q1 := byteI_lo (valN ts pR) 0
      have q2 := byteI_hi (valN ts pR) 0
      clear hxr hds h3 hnr hA hcell hn e2 rr l2 hrc hcm
      go_wp2_with fail
      clear hw5'
      refine Gd.wp_region_X 30 (by kernel_rfl) (by kernel_rfl) ?_
      simp only [List.take_succ_cons, List.take_zero, List.drop_succ_cons, List.drop_zero]
      intro wq hw1
      have LL : ∀ m : Lt wq, Ext w5 m.1 := fun m => hw1.tr m.2
      have v0 : ∀ m : Lt wq, m.1.cell? ⟨rb, ro, none⟩ = some (.int .u8 (byteI (valN ts pR) 0)) := fun m => ((LL m).cell (p := ⟨rb, ro, none⟩) hrb2).trans hrc5
      have v1 : ∀ m : Lt wq, m.1.cell? ⟨w4.heap.size, 0, none⟩ = some (.int .i64 (dcE (valN ts pS))) := fun m => ((LL m).cell (p := ⟨w4.heap.size, 0, none⟩) hls).trans s0
      have v2 : ∀ m : Lt wq, m.1.cell? ⟨w4.heap.size, 1, none⟩ = some (.int .i64 (dcS (valN ts pS))) := fun m => ((LL m).cell (p := ⟨w4.heap.size, 1, none⟩) hls).trans s1
      repeat (refine Gd.wpX_pure (by first | exact trivial | exact ⟨_, rfl, rfl, rfl⟩) rfl rfl rfl rfl rfl (fun K hK => ?_); go_big_quiet_op; refine hK _ ?_; clear hK K)
      refine Gd.wpX_buildSL (by first | exact trivial | exact ⟨_, rfl, rfl, rfl⟩) (fun v w => RdI w .i64 v pA) (stable_rdi _ _) (fun _ => [(0, .int .i64 32545), (1, .int .i64 32590), (2, .int .i64 66)]) rfl rfl rfl rfl rfl (fun _ => rfl) (fun m f hf => ⟨_, _, (by go_simp : (Instr.buildSlice 36 3 [(0, .int .i64 32545), (1, .int .i64 32590), (2, .int .i64 66)].toArray).run Tryz.prog m.1 = .ok (.slice (some ⟨m.1.heap.size, 0, none⟩) 3 3) (m.1.alloc (.cells #[.int .i64 32545, .int .i64 32590, .int .i64 66] 3))), (Below.refl _ _).alloc (Nat.le_refl _) _, rdi3 m.1 32545 32590 66⟩) ?_
      simp only [Act.put, List.setIfInBounds_toArray, List.set_cons_zero, List.set_cons_succ]
      refine Gd.wpX_callF (by first | exact trivial | exact ⟨_, rfl, rfl, rfl⟩) (GB (valN ts pA)) (stable_GB _) (fun f => [.slice A n cp, f 37]) rfl rfl rfl rfl rfl (by kernel_rfl) rfl (fun f => rfl) (fun m f hf => value_gb pA (by decide) (HR5.out.ext (LL m)) (hf 37 (fun v w => RdI w .i64 v pA) rfl rfl)) ?_
      simp only [Act.put, List.setIfInBounds_toArray, List.set_cons_zero, List.set_cons_succ]
      refine Gd.wpX_convL (by first | exact trivial | exact ⟨_, rfl, rfl, rfl⟩) (fun v _ => v = .string (bstr (valN ts pA))) (stable_eq _) (fun f => f 38) rfl rfl rfl rfl rfl (fun f => rfl) (fun m f hf => by obtain ⟨A1, n1, c1, h1, h2, h3⟩ := hf 38 _ rfl rfl; rw [h1]; exact ⟨_, _, run_strB h3, Below.refl _ _, rfl⟩) ?_
      simp only [Act.put, List.setIfInBounds_toArray, List.set_cons_zero, List.set_cons_succ]
      repeat (refine Gd.wpX_pure (by first | exact trivial | exact ⟨_, rfl, rfl, rfl⟩) rfl rfl rfl rfl rfl (fun K hK => ?_); go_big_quiet_op; refine hK _ ?_; clear hK K)
      refine Gd.wpX_buildSL (by first | exact trivial | exact ⟨_, rfl, rfl, rfl⟩) (fun v w => RdI w .i64 v pH) (stable_rdi _ _) (fun _ => [(0, .int .i64 32545), (1, .int .i64 32590), (2, .int .i64 24352)]) rfl rfl rfl rfl rfl (fun _ => rfl) (fun m f hf => ⟨_, _, (by go_simp : (Instr.buildSlice 36 3 [(0, .int .i64 32545), (1, .int .i64 32590), (2, .int .i64 24352)].toArray).run Tryz.prog m.1 = .ok (.slice (some ⟨m.1.heap.size, 0, none⟩) 3 3) (m.1.alloc (.cells #[.int .i64 32545, .int .i64 32590, .int .i64 24352] 3))), (Below.refl _ _).alloc (Nat.le_refl _) _, rdi3 m.1 32545 32590 24352⟩) ?_
      simp only [Act.put, List.setIfInBounds_toArray, List.set_cons_zero, List.set_cons_succ]
      refine Gd.wpX_callF (by first | exact trivial | exact ⟨_, rfl, rfl, rfl⟩) (GB (valN ts pH)) (stable_GB _) (fun f => [.slice A n cp, f 41]) rfl rfl rfl rfl rfl (by kernel_rfl) rfl (fun f => rfl) (fun m f hf => value_gb pH (by decide) (HR5.out.ext (LL m)) (hf 41 (fun v w => RdI w .i64 v pH) rfl rfl)) ?_
      simp only [Act.put, List.setIfInBounds_toArray, List.set_cons_zero, List.set_cons_succ]
      refine Gd.wpX_convL (by first | exact trivial | exact ⟨_, rfl, rfl, rfl⟩) (fun v _ => v = .string (bstr (valN ts pH))) (stable_eq _) (fun f => f 42) rfl rfl rfl rfl rfl (fun f => rfl) (fun m f hf => by obtain ⟨A1, n1, c1, h1, h2, h3⟩ := hf 42 _ rfl rfl; rw [h1]; exact ⟨_, _, run_strB h3, Below.refl _ _, rfl⟩) ?_
      simp only [Act.put, List.setIfInBounds_toArray, List.set_cons_zero, List.set_cons_succ]
      repeat (refine Gd.wpX_pure (by first | exact trivial | exact ⟨_, rfl, rfl, rfl⟩) rfl rfl rfl rfl rfl (fun K hK => ?_); go_big_quiet_op; refine hK _ ?_; clear hK K)
      refine Gd.wpX_buildSL (by first | exact trivial | exact ⟨_, rfl, rfl, rfl⟩) (fun v w => RdI w .i64 v pK) (stable_rdi _ _) (fun _ => [(0, .int .i64 32545), (1, .int .i64 32590), (2, .int .i64 134)]) rfl rfl rfl rfl rfl (fun _ => rfl) (fun m f hf => ⟨_, _, (by go_simp : (Instr.buildSlice 36 3 [(0, .int .i64 32545), (1, .int .i64 32590), (2, .int .i64 134)].toArray).run Tryz.prog m.1 = .ok (.slice (some ⟨m.1.heap.size, 0, none⟩) 3 3) (m.1.alloc (.cells #[.int .i64 32545, .int .i64 32590, .int .i64 134] 3))), (Below.refl _ _).alloc (Nat.le_refl _) _, rdi3 m.1 32545 32590 134⟩) ?_
      simp only [Act.put, List.setIfInBounds_toArray, List.set_cons_zero, List.set_cons_succ]
      refine Gd.wpX_callF (by first | exact trivial | exact ⟨_, rfl, rfl, rfl⟩) (GB (valN ts pK)) (stable_GB _) (fun f => [.slice A n cp, f 45]) rfl rfl rfl rfl rfl (by kernel_rfl) rfl (fun f => rfl) (fun m f hf => value_gb pK (by decide) (HR5.out.ext (LL m)) (hf 45 (fun v w => RdI w .i64 v pK) rfl rfl)) ?_
      simp only [Act.put, List.setIfInBounds_toArray, List.set_cons_zero, List.set_cons_succ]
      refine Gd.wpX_callF (by first | exact trivial | exact ⟨_, rfl, rfl, rfl⟩) (fun v _ => v = .int .i64 (smallN (valN ts pK))) (stable_eq _) (fun f => [f 46]) rfl rfl rfl rfl rfl (by kernel_rfl) rfl (fun f => rfl) (fun m f hf => by obtain ⟨A1, n1, c1, h1, h2, h3⟩ := hf 46 _ rfl rfl; rw [h1]; exact (refsmall_any m.1 h3).mono fun _ _ ⟨h, k⟩ => ⟨_, h, k ▸ Below.refl _ _, rfl⟩) ?_
      simp only [Act.put, List.setIfInBounds_toArray, List.set_cons_zero, List.set_cons_succ]
      repeat (refine Gd.wpX_pure (by first | exact trivial | exact ⟨_, rfl, rfl, rfl⟩) rfl rfl rfl rfl rfl (fun K hK => ?_); go_big_quiet_op; refine hK _ ?_; clear hK K)
      refine Gd.wpX_callF (by first | exact trivial | exact ⟨_, rfl, rfl, rfl⟩) (fun v _ => v = .int .i64 (num ((valN ts pR).drop 1))) (stable_eq _) (fun _ => [.slice (some ⟨rb, ro + 1, none⟩) 2 (cr - 1)]) rfl rfl rfl rfl rfl (by kernel_rfl) rfl (fun _ => rfl) (fun m f hf => (ref24num_any m.1 (HR1.out.ext (LL m)) (by rw [List.length_drop, H3.out]; omega)).mono fun _ _ ⟨h, k⟩ => ⟨_, h, k ▸ Below.refl _ _, rfl⟩) ?_
      simp only [Act.put, List.setIfInBounds_toArray, List.set_cons_zero, List.set_cons_succ]
      repeat (refine Gd.wpX_pure (by first | exact trivial | exact ⟨_, rfl, rfl, rfl⟩) rfl rfl rfl rfl rfl (fun K hK => ?_); go_big_quiet_op; refine hK _ ?_; clear hK K)
      refine Gd.wpX_buildSL (by first | exact trivial | exact ⟨_, rfl, rfl, rfl⟩) (fun v w => RdI w .i64 v pF) (stable_rdi _ _) (fun _ => [(0, .int .i64 32545), (1, .int .i64 32590), (2, .int .i64 24357)]) rfl rfl rfl rfl rfl (fun _ => rfl) (fun m f hf => ⟨_, _, (by go_simp : (Instr.buildSlice 36 3 [(0, .int .i64 32545), (1, .int .i64 32590), (2, .int .i64 24357)].toArray).run Tryz.prog m.1 = .ok (.slice (some ⟨m.1.heap.size, 0, none⟩) 3 3) (m.1.alloc (.cells #[.int .i64 32545, .int .i64 32590, .int .i64 24357] 3))), (Below.refl _ _).alloc (Nat.le_refl _) _, rdi3 m.1 32545 32590 24357⟩) ?_
      simp only [Act.put, List.setIfInBounds_toArray, List.set_cons_zero, List.set_cons_succ]
      refine Gd.wpX_callF (by first | exact trivial | exact ⟨_, rfl, rfl, rfl⟩) (GB (valN ts pF)) (stable_GB _) (fun f => [.slice A n cp, f 56]) rfl rfl rfl rfl rfl (by kernel_rfl) rfl (fun f => rfl) (fun m f hf => value_gb pF (by decide) (HR5.out.ext (LL m)) (hf 56 (fun v w => RdI w .i64 v pF) rfl rfl)) ?_
      simp only [Act.put, List.setIfInBounds_toArray, List.set_cons_zero, List.set_cons_succ]
      refine Gd.wpX_callF (by first | exact trivial | exact ⟨_, rfl, rfl, rfl⟩) (fun v _ => v = .int .i64 (smallN (valN ts pF))) (stable_eq _) (fun f => [f 57]) rfl rfl rfl rfl rfl (by kernel_rfl) rfl (fun f => rfl) (fun m f hf => by obtain ⟨A1, n1, c1, h1, h2, h3⟩ := hf 57 _ rfl rfl; rw [h1]; exact (refsmall_any m.1 h3).mono fun _ _ ⟨h, k⟩ => ⟨_, h, k ▸ Below.refl _ _, rfl⟩) ?_
      simp only [Act.put, List.setIfInBounds_toArray, List.set_cons_zero, List.set_cons_succ]
      repeat (refine Gd.wpX_pure (by first | exact trivial | exact ⟨_, rfl, rfl, rfl⟩) rfl rfl rfl rfl rfl (fun K hK => ?_); go_big_quiet_op; refine hK _ ?_; clear hK K)
      refine Gd.wpX_buildSL (by first | exact trivial | exact ⟨_, rfl, rfl, rfl⟩) (fun v w => RdI w .i64 v pT) (stable_rdi _ _) (fun _ => [(0, .int .i64 32545), (1, .int .i64 32590), (2, .int .i64 24356)]) rfl rfl rfl rfl rfl (fun _ => rfl) (fun m f hf => ⟨_, _, (by go_simp : (Instr.buildSlice 36 3 [(0, .int .i64 32545), (1, .int .i64 32590), (2, .int .i64 24356)].toArray).run Tryz.prog m.1 = .ok (.slice (some ⟨m.1.heap.size, 0, none⟩) 3 3) (m.1.alloc (.cells #[.int .i64 32545, .int .i64 32590, .int .i64 24356] 3))), (Below.refl _ _).alloc (Nat.le_refl _) _, rdi3 m.1 32545 32590 24356⟩) ?_
      simp only [Act.put, List.setIfInBounds_toArray, List.set_cons_zero, List.set_cons_succ]
      refine Gd.wpX_callF (by first | exact trivial | exact ⟨_, rfl, rfl, rfl⟩) (GB (valN ts pT)) (stable_GB _) (fun f => [.slice A n cp, f 60]) rfl rfl rfl rfl rfl (by kernel_rfl) rfl (fun f => rfl) (fun m f hf => value_gb pT (by decide) (HR5.out.ext (LL m)) (hf 60 (fun v w => RdI w .i64 v pT) rfl rfl)) ?_
      simp only [Act.put, List.setIfInBounds_toArray, List.set_cons_zero, List.set_cons_succ]
      refine Gd.wpX_callF (by first | exact trivial | exact ⟨_, rfl, rfl, rfl⟩) (fun v _ => v = .int .i64 (smallN (valN ts pT))) (stable_eq _) (fun f => [f 61]) rfl rfl rfl rfl rfl (by kernel_rfl) rfl (fun f => rfl) (fun m f hf => by obtain ⟨A1, n1, c1, h1, h2, h3⟩ := hf 61 _ rfl rfl; rw [h1]; exact (refsmall_any m.1 h3).mono fun _ _ ⟨h, k⟩ => ⟨_, h, k ▸ Below.refl _ _, rfl⟩) ?_
      simp only [Act.put, List.setIfInBounds_toArray, List.set_cons_zero, List.set_cons_succ]
      repeat (refine Gd.wpX_pure (by first | exact trivial | exact ⟨_, rfl, rfl, rfl⟩) rfl rfl rfl rfl rfl (fun K hK => ?_); go_big_quiet_op; refine hK _ ?_; clear hK K)
      refine Gd.wpX_buildL (by first | exact trivial | exact ⟨_, rfl, rfl, rfl⟩) (fun v _ => v = tcV c) (stable_eq _) (fun f => [(0, f 39), (1, f 43), (2, f 47), (3, .int .i64 (byteI (valN ts pR) 0)), (4, f 54), (5, f 58), (6, f 62), (7, .agg #[.int .i64 (dcE (valN ts pS)), .int .i64 (dcS (valN ts pS))])]) rfl rfl rfl rfl rfl (fun f => rfl) (fun m f hf => by rw [hf 39 _ rfl rfl, hf 43 _ rfl rfl, hf 47 _ rfl rfl, hf 54 _ rfl rfl, hf 58 _ rfl rfl, hf 62 _ rfl rfl]; exact ⟨_, _, run_buildTc m.1 _ _ _ _ _ _ _ _ _, Below.refl _ _, by rw [hcd]; rfl⟩) ?_
      simp only [Act.put, List.setIfInBounds_toArray, List.set_cons_zero, List.set_cons_succ]
      refine Gd.wpX_allocTc (by first | exact trivial | exact ⟨_, rfl, rfl, rfl⟩) rfl rfl rfl rfl ?_
      simp only [Act.put, List.setIfInBounds_toArray, List.set_cons_zero, List.set_cons_succ]
      refine Gd.wpX_endL (fun m f hf => ?_)
      have e64 := hf 64 _ rfl
      obtain ⟨cb, e8, hcb, TZ0⟩ := hf 8 _ rfl
      simp only [fillH]
      simp only [Act.put, List.setIfInBounds_toArray, List.set_cons_zero, List.set_cons_succ]
      rw [e64, e8]
      have Lm := LL m
      have hw15 := hw1.size
      obtain ⟨w6, hw6⟩ := m
      clear LL v0 v1 v2 hf e64 e8 s0 s1 hls hrc5 HR1 HR5
      have TZ0 : TcAt w6 cb zeroT := TZ0
      have x6 := x5.tr Lm
      have zr6 := zr5.ext Lm
      have hcb5 : w5.heap.size ≤ cb := Nat.le_trans hw15 hcb
      have hxw : w.heap.size ≤ cb := Nat.le_trans x5.size hcb5
      have hrw : w.heap.size ≠ cb := by have := zr5.lt; omega
      obtain ⟨w7, hw7, x7, TC7⟩ : ∃ w7, w7 = ((((((((w6.setCell ⟨cb, 0, none⟩ (.string (bstr c.au))).setCell ⟨cb, 1, none⟩ (.string (bstr c.ho))).setCell ⟨cb, 2, none⟩ (.int .i64 c.key)).setCell ⟨cb, 3, none⟩ (.int .i64 c.role)).setCell ⟨cb, 4, none⟩ (.int .i64 c.rights)).setCell ⟨cb, 5, none⟩ (.int .i64 c.fr)).setCell ⟨cb, 6, none⟩ (.int .i64 c.to)).setCell ⟨cb, 7, none⟩ (.int .i64 c.e)).setCell ⟨cb, 8, none⟩ (.int .i64 c.s) ∧ Ext w w7 ∧ TcAt w7 cb c :=
        ⟨_, rfl, ext_setT x6 hxw c, TZ0.setT c⟩
      have zr7 : TcAt w7 w.heap.size zeroT := by
        rw [hw7]
        exact ((((((((zr6.other hrw).other hrw).other hrw).other hrw).other hrw).other hrw).other hrw).other hrw).other hrw
      obtain ⟨r0, r1, r2, r3, r4, r5, r6, r7, r8⟩ := TZ0.cells
      have hlc := TZ0.lt
      have g0 := TZ0.frozen 0
      have g1 := TZ0.frozen 1
      have g2 := TZ0.frozen 2
      have g3 := TZ0.frozen 3
      have g4 := TZ0.frozen 4
      have g5 := TZ0.frozen 5
      have g6 := TZ0.frozen 6
      have g7 := TZ0.frozen 7
      have g8 := TZ0.frozen 8
      clear x6 zr6 hcd
      unfold tcV
      show wpList _ _ _ _ _ _
      go_wp2_with fail
      rw [← hw7]
      clear hw7 r0 r1 r2 r3 r4 r5 r6 r7 r8 g0 g1 g2 g3 g4 g5 g6 g7 g8 hlc TZ0
      refine (reftencode_any c w7 HM.out).mono ?_
      rintro e w8 ⟨A8, n8, c8, rfl, hn8, r8, b8⟩
      have x8 := x7.tr b8
      have TC8 := TC7.ext b8
      have zr8 := zr7.ext b8
      have hn8' : n8 = (ecB c).length := hn8.out
      subst hn8'
      clear x7 TC7 zr7 b8
      by_cases hec : ecK c = 0
      case neg =>
        have HC := HD.out.2.1 ts cnt c HO.out HX.out (fun q => hec q.1)
        have hb : (ecK c != 0) = true := by simpa using hec
        clear HD hec hn8 r8
        have TZ : TcAt (set9 w8 w.heap.size (.string ⟨#[]⟩) (.string ⟨#[]⟩) (.int .i64 0) (.int .i64 0) (.int .i64 0) (.int .i64 0) (.int .i64 0) (.int .i64 0) (.int .i64 0)) w.heap.size zeroT := (zr8).setT zeroT
        have hlr := (zr8).lt
        obtain ⟨r0, r1, r2, r3, r4, r5, r6, r7, r8⟩ := (zr8).cells
        have g0 := (zr8).frozen 0
        have g1 := (zr8).frozen 1
        have g2 := (zr8).frozen 2
        have g3 := (zr8).frozen 3
        have g4 := (zr8).frozen 4
        have g5 := (zr8).frozen 5
        have g6 := (zr8).frozen 6
        have g7 := (zr8).frozen 7
        have g8 := (zr8).frozen 8
        go_wp2_with fail
        refine bodyPost_ret (v := .tuple #[tcV zeroT, .int .i64 1]) ?_ rfl ⟨by rw [HC.1, HC.2], ext_setT (x8) (Nat.le_refl _) zeroT⟩
        obtain ⟨q0, q1, q2, q3, q4, q5, q6, q7, q8⟩ := TZ.cells
        clear r0 r1 r2 r3 r4 r5 r6 r7 r8
        simp [results, Tryz.results18, go_sem, tcV, q0, q1, q2, q3, q4, q5, q6, q7, q8]
      case pos =>
        have HE := Lib.hid hec
        rw [hec]
        have s1 := run_strB r8
        have s2 := run_strB (HA.out.ext x8)
        clear hec r8 hn8
        by_cases hsm : ecB c = l
        case neg =>
          have HC := HD.out.2.1 ts cnt c HO.out HX.out (fun q => hsm q.2)
          have hse : (ecB c == l) = false := by simpa using hsm
          clear HD
          have TZ : TcAt (set9 w8 w.heap.size (.string ⟨#[]⟩) (.string ⟨#[]⟩) (.int .i64 0) (.int .i64 0) (.int .i64 0) (.int .i64 0) (.int .i64 0) (.int .i64 0) (.int .i64 0)) w.heap.size zeroT := (zr8).setT zeroT
          have hlr := (zr8).lt
          obtain ⟨r0, r1, r2, r3, r4, r5, r6, r7, r8⟩ := (zr8).cells
          have g0 := (zr8).frozen 0
          have g1 := (zr8).frozen 1
          have g2 := (zr8).frozen 2
          have g3 := (zr8).frozen 3
          have g4 := (zr8).frozen 4
          have g5 := (zr8).frozen 5
          have g6 := (zr8).frozen 6
          have g7 := (zr8).frozen 7
          have g8 := (zr8).frozen 8
          go_wp2_with fail
          refine bodyPost_ret (v := .tuple #[tcV zeroT, .int .i64 1]) ?_ rfl ⟨by rw [HC.1, HC.2], ext_setT (x8) (Nat.le_refl _) zeroT⟩
          obtain ⟨q0, q1, q2, q3, q4, q5, q6, q7, q8⟩ := TZ.cells
          clear r0 r1 r2 r3 r4 r5 r6 r7 r8
          simp [results, Tryz.results18, go_sem, tcV, q0, q1, q2, q3, q4, q5, q6, q7, q8]
        case pos =>
          have HC := HD.out.1 ts cnt c HO.out HX.out HE.out hsm
          have TZ : TcAt (set9 w8 w.heap.size (.string (bstr c.au)) (.string (bstr c.ho)) (.int .i64 c.key) (.int .i64 c.role) (.int .i64 c.rights) (.int .i64 c.fr) (.int .i64 c.to) (.int .i64 c.e) (.int .i64 c.s)) w.heap.size c := zr8.setT c
          have hlr := zr8.lt
          have hlc := TC8.lt
          obtain ⟨i0, i1, i2, i3, i4, i5, i6, i7, i8⟩ := TC8.cells
          obtain ⟨r0, r1, r2, r3, r4, r5, r6, r7, r8⟩ := zr8.cells
          have g0 := zr8.frozen 0
          have g1 := zr8.frozen 1
          have g2 := zr8.frozen 2
          have g3 := zr8.frozen 3
          have g4 := zr8.frozen 4
          have g5 := zr8.frozen 5
          have g6 := zr8.frozen 6
          have g7 := zr8.frozen 7
          have g8 := zr8.frozen 8
          rw [hsm] at s1
          clear HD
          go_wp2_with fail
          refine bodyPost_ret (v := .tuple #[tcV c, .int .i64 0]) ?_ rfl ⟨by rw [HC.1, HC.2], ext_setT x8 (Nat.le_refl _) c⟩
          obtain ⟨q0, q1, q2, q3, q4, q5, q6, q7, q8⟩ := TZ.cells
          clear r0 r1 r2 r3 r4 r5 r6 r7 r8 i0 i1 i2 i3 i4 i5 i6 i7 i8
          simp [results, Tryz.results18, go_sem, tcV, q0, q1, q2, q3, q4, q5, q6, q7, q8]
end Go.Proofs.YteilglpdmfiinaaGreatDoor

namespace Go.Proofs.YteilglpdmfiinaaGreatDoor
open Go.RowKit
set_option linter.unusedVariables false
set_option maxRecDepth 100000

def rootN : List UInt8 := [82, 79, 79, 84, 49]
def homeN : List UInt8 := [72, 79, 77, 69, 49]
def kRoot : Int := holderK rootN
theorem kRoot_in : inB 1 1073741789 kRoot = true := near_in _
theorem holderK_in (l : List UInt8) : inB 1 1073741789 (holderK l) = true := near_in _
theorem elem_holder (l : List UInt8) : isElem (pw 4 (holderK l)) = true := by
  obtain ⟨h0, h1⟩ := inB_true (holderK_in l)
  exact pub_elem h0 h1
theorem name_root : nameP rootN := by decide
theorem name_home : nameP homeN := by decide
def awC (ph : Int) : TC := ⟨rootN, homeN, ph, 2, 3, 10, 20, 0, 0⟩
theorem ck_awC {ph : Int} (h : isElem ph = true) : ckT (awC ph) = 0 := ck_ok name_root name_home h (by show ¬ ((2 : Int) < 1 ∨ 4 < (2 : Int)); omega) (by show ¬ ((3 : Int) < 0 ∨ 65535 < (3 : Int)); omega) (by show (0 : Int) ≤ 10 ∧ (10 : Int) ≤ 20 ∧ (20 : Int) ≤ 73048; omega)
theorem ck_zero : ckT zeroT = 60 := ck_au (by decide)
theorem tsecret_root (w : World) : Calls Tryz.prog 28 #[.string ⟨#[82, 79, 79, 84, 49]⟩] w fun e w' => e = .returned (.int .i64 kRoot) ∧ w = w' :=
  tsecret_any _ w (by unfold maxLen; decide)
theorem holder_root (w : World) : Calls Tryz.prog 26 #[.string ⟨#[82, 79, 79, 84, 49]⟩] w fun e w' => e = .returned (.int .i64 (pw 4 kRoot)) ∧ w = w' :=
  holder_any _ w (by unfold maxLen; decide)
theorem holder_home (w : World) : Calls Tryz.prog 26 #[.string ⟨#[72, 79, 77, 69, 49]⟩] w fun e w' => e = .returned (.int .i64 (pw 4 (holderK homeN))) ∧ w = w' :=
  holder_any _ w (by unfold maxLen; decide)
theorem run_buildZ (W : World) : (Instr.build 27 ([] : List (Nat × Value)).toArray).run Tryz.prog W = .ok (tcV zeroT) W := run_build W _ _ _ (by kernel_rfl)
set_option maxHeartbeats 4000000 in
theorem awake24_core (kr ph pr : Int) (hk : inB 1 1073741789 kr = true) (he : isElem ph = true) (hp : pr = pw 4 kr)
    (F1 : ∀ w : World, Calls Tryz.prog 28 #[.string ⟨#[82, 79, 79, 84, 49]⟩] w fun e w' => e = .returned (.int .i64 kr) ∧ w = w')
    (F2 : ∀ w : World, Calls Tryz.prog 26 #[.string ⟨#[72, 79, 77, 69, 49]⟩] w fun e w' => e = .returned (.int .i64 ph) ∧ w = w')
    (F3 : ∀ w : World, Calls Tryz.prog 26 #[.string ⟨#[82, 79, 79, 84, 49]⟩] w fun e w' => e = .returned (.int .i64 pr) ∧ w = w')
    (w : World) (E : KTab w 1) : Calls Tryz.prog 16 #[] w (RetQ w (.bool true)) := by
  go_enter Tryz.func16, Tryz.ntmps16
  go_wp2_with fail
  refine (F1 w).mono ?_
  rintro e w' ⟨rfl, rfl⟩
  go_wp2_with fail
  refine (F2 _).mono ?_
  rintro e w' ⟨rfl, rfl⟩
  go_wp2_with fail
  have hck := ck_awC he
  refine (issue_any kr (awC ph) _ (sm_of hck) E).mono ?_
  rintro e w1 ⟨rfl, b1⟩
  have hv := valid_issue hk hck
  have h1 := vf_issue hk hck
  have h2 := vf_one (isC kr (awC ph))
  rw [isK_in hk hck]
  rw [← hp] at h1
  generalize isC kr (awC ph) = c1 at *
  have hd := dt_of hv
  have hek := ecK_valid.2 hv
  have hsm := sm_of hv.1
  have hln := ecB_len c1
  have HD := Lib.hid hd
  have H1 := Lib.hid h1
  have H2 := Lib.hid h2
  clear hd h1 h2 hv hp he hck hk
  obtain ⟨wa1, hwb1, ea1, TA1⟩ := zero_alloc w1
  have hwa1 := hwb1.symm
  clear hwb1
  obtain ⟨wc1, hwc1, ec1, TC1⟩ : ∃ wc, wc = (((((((((wa1.setCell ⟨w1.heap.size, 0, none⟩ (.string (bstr c1.au))).setCell ⟨w1.heap.size, 1, none⟩ (.string (bstr c1.ho))).setCell ⟨w1.heap.size, 2, none⟩ (.int .i64 c1.key)).setCell ⟨w1.heap.size, 3, none⟩ (.int .i64 c1.role)).setCell ⟨w1.heap.size, 4, none⟩ (.int .i64 c1.rights)).setCell ⟨w1.heap.size, 5, none⟩ (.int .i64 c1.fr)).setCell ⟨w1.heap.size, 6, none⟩ (.int .i64 c1.to)).setCell ⟨w1.heap.size, 7, none⟩ (.int .i64 c1.e)).setCell ⟨w1.heap.size, 8, none⟩ (.int .i64 c1.s)) ∧ Ext w1 wc ∧ TcAt wc w1.heap.size c1 := ⟨_, rfl, ext_setT ea1 (Nat.le_refl _) c1, TA1.setT c1⟩
  have HZ1 := Lib.hid (show wc1.heap.size = wa1.heap.size by rw [hwc1]; simp)
  have hla1 := TA1.lt
  obtain ⟨ra0, ra1, ra2, ra3, ra4, ra5, ra6, ra7, ra8⟩ := TA1.cells
  have ga0 := TA1.frozen 0
  have ga1 := TA1.frozen 1
  have ga2 := TA1.frozen 2
  have ga3 := TA1.frozen 3
  have ga4 := TA1.frozen 4
  have ga5 := TA1.frozen 5
  have ga6 := TA1.frozen 6
  have ga7 := TA1.frozen 7
  have ga8 := TA1.frozen 8
  clear ea1
  unfold tcV
  go_wp2_with fail
  rw [← hwc1]
  clear hwc1 hwa1 hla1 TA1 ra0 ga0 ra1 ga1 ra2 ga2 ra3 ga3 ra4 ga4 ra5 ga5 ra6 ga6 ra7 ga7 ra8 ga8
  refine (tencode_any c1 wc1 hsm).mono ?_
  rintro e w2 ⟨A2, n2, c2, rfl, hn2, r2, b2⟩
  have x2 := b1.tr (ec1.tr b2)
  have T2 := TC1.ext b2
  rw [hek]
  clear ec1 HZ1 TC1
  go_wp2_with fail
  refine (tdecode_any _ r2 (by omega)).mono ?_
  rintro e w3 ⟨rfl, b3⟩
  have x3 := x2.tr b3
  have T3 := T2.ext b3
  rw [HD.out.1, HD.out.2]
  clear r2 hn2 T2 hln
  obtain ⟨wa2, hwb2, ea2, TA2⟩ := zero_alloc w3
  have hwa2 := hwb2.symm
  clear hwb2
  obtain ⟨wc2, hwc2, ec2, TC2⟩ : ∃ wc, wc = (((((((((wa2.setCell ⟨w3.heap.size, 0, none⟩ (.string (bstr c1.au))).setCell ⟨w3.heap.size, 1, none⟩ (.string (bstr c1.ho))).setCell ⟨w3.heap.size, 2, none⟩ (.int .i64 c1.key)).setCell ⟨w3.heap.size, 3, none⟩ (.int .i64 c1.role)).setCell ⟨w3.heap.size, 4, none⟩ (.int .i64 c1.rights)).setCell ⟨w3.heap.size, 5, none⟩ (.int .i64 c1.fr)).setCell ⟨w3.heap.size, 6, none⟩ (.int .i64 c1.to)).setCell ⟨w3.heap.size, 7, none⟩ (.int .i64 c1.e)).setCell ⟨w3.heap.size, 8, none⟩ (.int .i64 c1.s)) ∧ Ext w3 wc ∧ TcAt wc w3.heap.size c1 := ⟨_, rfl, ext_setT ea2 (Nat.le_refl _) c1, TA2.setT c1⟩
  have HZ2 := Lib.hid (show wc2.heap.size = wa2.heap.size by rw [hwc2]; simp)
  have hla2 := TA2.lt
  obtain ⟨ra0, ra1, ra2, ra3, ra4, ra5, ra6, ra7, ra8⟩ := TA2.cells
  have ga0 := TA2.frozen 0
  have ga1 := TA2.frozen 1
  have ga2 := TA2.frozen 2
  have ga3 := TA2.frozen 3
  have ga4 := TA2.frozen 4
  have ga5 := TA2.frozen 5
  have ga6 := TA2.frozen 6
  have ga7 := TA2.frozen 7
  have ga8 := TA2.frozen 8
  clear ea2
  obtain ⟨i0, i1, i2, i3, i4, i5, i6, i7, i8⟩ := T3.cells
  have hl3 := T3.lt
  unfold tcV
  go_wp2_with fail
  rw [← hwc2]
  clear hwc2 hwa2 hla2 TA2 ra0 ga0 ra1 ga1 ra2 ga2 ra3 ga3 ra4 ga4 ra5 ga5 ra6 ga6 ra7 ga7 ra8 ga8
  have T4 := T3.ext ec2
  have x4 := x3.tr ec2
  clear i0 i1 i2 i3 i4 i5 i6 i7 i8 hl3 HZ2
  go_wp2_with fail
  refine Gd.wp_region_X 30 (by kernel_rfl) (by kernel_rfl) ?_
  simp only [List.take_succ_cons, List.take_zero, List.drop_succ_cons, List.drop_zero]
  intro wq hw1
  have LL : ∀ m : Lt wq, Ext wc2 m.1 := fun m => hw1.tr m.2
  have P0 : ∀ m : Lt wq, TcAt m.1 w1.heap.size c1 := fun m => T4.ext (LL m)
  have Q0 : ∀ m : Lt wq, TcAt m.1 w3.heap.size c1 := fun m => TC2.ext (LL m)
  have p0 := fun m : Lt wq => (P0 m).cells.1
  have q0 := fun m : Lt wq => (Q0 m).cells.1
  have p1 := fun m : Lt wq => (P0 m).cells.2.1
  have q1 := fun m : Lt wq => (Q0 m).cells.2.1
  have p2 := fun m : Lt wq => (P0 m).cells.2.2.1
  have q2 := fun m : Lt wq => (Q0 m).cells.2.2.1
  have p3 := fun m : Lt wq => (P0 m).cells.2.2.2.1
  have q3 := fun m : Lt wq => (Q0 m).cells.2.2.2.1
  have p4 := fun m : Lt wq => (P0 m).cells.2.2.2.2.1
  have q4 := fun m : Lt wq => (Q0 m).cells.2.2.2.2.1
  have p5 := fun m : Lt wq => (P0 m).cells.2.2.2.2.2.1
  have q5 := fun m : Lt wq => (Q0 m).cells.2.2.2.2.2.1
  have p6 := fun m : Lt wq => (P0 m).cells.2.2.2.2.2.2.1
  have q6 := fun m : Lt wq => (Q0 m).cells.2.2.2.2.2.2.1
  have p7 := fun m : Lt wq => (P0 m).cells.2.2.2.2.2.2.2.1
  have q7 := fun m : Lt wq => (Q0 m).cells.2.2.2.2.2.2.2.1
  have p8 := fun m : Lt wq => (P0 m).cells.2.2.2.2.2.2.2.2
  have q8 := fun m : Lt wq => (Q0 m).cells.2.2.2.2.2.2.2.2
  repeat (refine Gd.wpX_pure (by first | exact trivial | exact ⟨_, rfl, rfl, rfl⟩) rfl rfl rfl rfl rfl (fun K hK => ?_); go_big_quiet_op; refine hK _ ?_; clear hK K)
  refine Gd.wpX_callFn (by first | exact trivial | exact ⟨_, rfl, rfl, rfl⟩) (.int .i64 (pr)) rfl rfl rfl rfl (by kernel_rfl) rfl rfl (fun m => (F3 m.1).mono fun _ _ ⟨h1, h2⟩ => ⟨h1, h2 ▸ Below.refl _ _⟩) ?_
  simp only [Act.put, List.setIfInBounds_toArray, List.set_cons_zero, List.set_cons_succ]
  repeat (refine Gd.wpX_pure (by first | exact trivial | exact ⟨_, rfl, rfl, rfl⟩) rfl rfl rfl rfl rfl (fun K hK => ?_); go_big_quiet_op; refine hK _ ?_; clear hK K)
  refine Gd.wpX_callFn (by first | exact trivial | exact ⟨_, rfl, rfl, rfl⟩) (.bool true) (args := [.int .i64 (pr), tcV c1]) rfl rfl rfl rfl (by kernel_rfl) rfl rfl (fun m => (tverify_any (pr) c1 m.1 hsm (E.below (x4.tr (LL m)))).mono fun _ _ ⟨h1, h2⟩ => ⟨by rw [h1, H1.out], h2⟩) ?_
  simp only [Act.put, List.setIfInBounds_toArray, List.set_cons_zero, List.set_cons_succ]
  repeat (refine Gd.wpX_pure (by first | exact trivial | exact ⟨_, rfl, rfl, rfl⟩) rfl rfl rfl rfl rfl (fun K hK => ?_); go_big_quiet_op; refine hK _ ?_; clear hK K)
  refine Gd.wpX_callFn (by first | exact trivial | exact ⟨_, rfl, rfl, rfl⟩) (.bool false) (args := [.int .i64 1, tcV c1]) rfl rfl rfl rfl (by kernel_rfl) rfl rfl (fun m => (tverify_any 1 c1 m.1 hsm (E.below (x4.tr (LL m)))).mono fun _ _ ⟨h1, h2⟩ => ⟨by rw [h1, H2.out], h2⟩) ?_
  simp only [Act.put, List.setIfInBounds_toArray, List.set_cons_zero, List.set_cons_succ]
  repeat (refine Gd.wpX_pure (by first | exact trivial | exact ⟨_, rfl, rfl, rfl⟩) rfl rfl rfl rfl rfl (fun K hK => ?_); go_big_quiet_op; refine hK _ ?_; clear hK K)
  refine Gd.wpX_buildL (by first | exact trivial | exact ⟨_, rfl, rfl, rfl⟩) (fun v _ => v = tcV zeroT) (stable_eq _) (fun _ => []) rfl rfl rfl rfl rfl (fun _ => rfl) (fun m f hf => ⟨_, _, run_buildZ m.1, Below.refl _ _, rfl⟩) ?_
  simp only [Act.put, List.setIfInBounds_toArray, List.set_cons_zero, List.set_cons_succ]
  refine Gd.wpX_callUse (by first | exact trivial | exact ⟨_, rfl, rfl, rfl⟩) 50 _ (.int .i64 60) (fun u => [u]) rfl rfl rfl rfl rfl rfl rfl (fun u => rfl) (by kernel_rfl) (fun u => rfl) (fun m u hu => by
    rw [show u = tcV zeroT from hu]
    exact (checkP_any zeroT m.1 ⟨Nat.zero_le _, Nat.zero_le _⟩).mono fun _ _ ⟨h1, h2⟩ => ⟨by rw [h1, ck_zero], h2⟩) ?_
  simp only [Act.put, List.setIfInBounds_toArray, List.set_cons_zero, List.set_cons_succ]
  repeat (refine Gd.wpX_pure (by first | exact trivial | exact ⟨_, rfl, rfl, rfl⟩) rfl rfl rfl rfl rfl (fun K hK => ?_); go_big_quiet_op; refine hK _ ?_; clear hK K)
  refine Gd.wpX_endL (fun m f hf => ?_)
  simp only [fillH]
  simp only [Act.put, List.setIfInBounds_toArray, List.set_cons_zero, List.set_cons_succ]
  have Lm := x4.tr (LL m)
  obtain ⟨wm, hwm⟩ := m
  clear hf LL P0 Q0 p0 p1 p2 p3 p4 p5 p6 p7 p8 q0 q1 q2 q3 q4 q5 q6 q7 q8
  show wpList _ _ _ _ _ _
  go_wp2_with fail
  go_ret
  exact ⟨rfl, Lm⟩
theorem awake24_any (w : World) (E : KTab w 1) : Calls Tryz.prog 16 #[] w (RetQ w (.bool true)) :=
  awake24_core kRoot (pw 4 (holderK homeN)) (pw 4 kRoot) kRoot_in (elem_holder _) rfl tsecret_root holder_home holder_root w E
end Go.Proofs.YteilglpdmfiinaaGreatDoor
