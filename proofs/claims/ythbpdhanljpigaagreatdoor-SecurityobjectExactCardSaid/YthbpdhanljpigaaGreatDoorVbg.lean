/- Parts Xl of the proof. -/
import Derived.Test.YthbpdhanljpigaaGreatDoorVbe
import Derived.Test.YthbpdhanljpigaaGreatDoorVbc
import Derived.Test.YthbpdhanljpigaaGreatDoorVao
import Derived.Test.YthbpdhanljpigaaGreatDoorVbd
namespace Go.Proofs.YthbpdhanljpigaaGreatDoor
open Go.RowKit
set_option linter.unusedVariables false
set_option maxRecDepth 100000
theorem mk_err {k : Int} {cert : List UInt8} {nf : Nat} {e : Int} : mkX k cert nf (.error e) = .error e := rfl
theorem mk_bad {k : Int} {cert : List UInt8} {nf : Nat} {hs : List (Int × List UInt8)} (h : nf = 0 ∨ crtX cert = false) : mkX k cert nf (.ok hs) = .error 2 := by
  refine if_pos ?_
  rcases h with h | h
  · exact .inl h
  · unfold crtX at h
    have := of_decide_eq_false h
    omega
theorem mk_go {k : Int} {cert : List UInt8} {nf : Nat} {hs : List (Int × List UInt8)} (h : nf ≠ 0) (hc : crtX cert = true) :
    mkX k cert nf (.ok hs) = if sK k ≠ 0 then .error (sK k) else .ok ⟨1, hs, cert, sE k (msgB ⟨1, hs, cert, 0, 0⟩), sS k (msgB ⟨1, hs, cert, 0, 0⟩)⟩ := by
  have hd := of_decide_eq_true hc
  refine (if_neg (by omega)).trans ?_
  unfold sK sE sS
  by_cases hk : inB 1 1073741789 k = true
  · rw [if_pos hk, if_pos hk, if_pos hk, if_pos hk, if_neg (by simp)]
  · rw [if_neg hk, if_neg hk, if_pos (by decide)]
theorem msgB_le (s : SE) : (msgB s).length ≤ 1000 := by
  unfold msgB
  split
  · rename_i h; exact (msg_len h).1
  · simp
set_option maxHeartbeats 8000000 in
theorem make16_any {vc : Value} {Af : Option Addr} {nf cf : Nat} {cert : List UInt8} {r : Except Int (List (Int × List UInt8))} (k : Int) (w : World) (hc : Rd w vc (bvs cert)) (hl : cert.length ≤ 140737488355328)
    (HH : ∀ W, Ext w W → Calls Tryz.prog 12 #[.slice Af nf cf] W (HsQ W r)) (h0 : ∀ hs, r = .ok hs → ∀ x ∈ hs, x.1 ≠ 0) (hnf : nf ≤ 9223372036854775807) (K : KTab w 2) :
    Calls Tryz.prog 14 #[.int .i64 k, vc, .slice Af nf cf] w (DecQ w (mkX k cert nf r)) := by
  obtain ⟨A0, n0, c0, rfl, hn0, _⟩ := hc.bytes
  subst hn0
  obtain ⟨wz, hwz⟩ : ∃ wz, wz = w.alloc (.cells #[.int .i64 0, .slice none 0 0, .slice none 0 0, .int .i64 0, .int .i64 0] 37) := ⟨_, rfl⟩
  have xz := Lib.hid (show Ext w wz by rw [hwz]; exact (Below.refl _ _).alloc (Nat.le_refl _) _)
  have Z := Lib.hid (show SeAt wz w.heap.size seZ (.slice none 0 0) (.slice none 0 0) by rw [hwz]; exact heap_alloc_new' w _)
  have HR := Lib.hid hc
  have HHA := Lib.hid HH
  have HH0 := Lib.hid h0
  have HKT := Lib.hid (fun W (e : Ext w W) => (K.below e : KTab W _))
  clear hc HH h0 K
  go_enter Tryz.func14, Tryz.ntmps14
  go_wp2_with fail
  rw [← hwz]
  clear hwz
  refine (HHA.out wz xz.out).mono ?_
  rintro e w2 ⟨b2, h⟩
  have X2 := Lib.hid (xz.out.tr b2)
  have Z2 := Lib.hid (Z.out.ext b2)
  clear b2
  rcases h with ⟨z, hE, hz, rfl⟩ | ⟨hs, A1, n1, c1, hE, rfl, hH⟩
  · have HE := Lib.hid (show mkX k cert nf r = .error z by rw [hE]; exact mk_err)
    have HK := Lib.hid hz
    have hkb : (z != 0) = true := by simpa using hz
    clear hE hz
    go_wp2_with (refine wpRow_store rfl 37 _ _ rfl rfl w.heap.size (seRow 0 (.slice none 0 0) (.slice none 0 0) 0 0) rfl rfl 37 #[.int .i64 0, .slice none 0 0, .slice none 0 0, .int .i64 0, .int .i64 0] Z2.out info_se rfl (seRow_one _ _ _ rfl rfl) ?_)
    have RZ : SeAt (w2.setRow w.heap.size (seRow 0 (.slice none 0 0) (.slice none 0 0) 0 0)) w.heap.size seZ (.slice none 0 0) (.slice none 0 0) := row_at Z2.out
    have q0 : _ = some (Value.int .i64 0) := RZ.c0
    have q1 := RZ.c1
    have q2 := RZ.c2
    have q3 : _ = some (Value.int .i64 0) := RZ.c3
    have q4 : _ = some (Value.int .i64 0) := RZ.c4
    refine bodyPost_ret (v := .tuple #[.agg #[.int .i64 0, .slice none 0 0, .slice none 0 0, .int .i64 0, .int .i64 0], .int .i64 z]) ?_ rfl ⟨ext_setRow X2.out (Nat.le_refl _) _, .inl ⟨z, HE.out, HK.out, rfl⟩⟩
    simp [results, Tryz.results14, go_sem, q0, q1, q2, q3, q4]
  have HRE := Lib.hid hE
  have HHR := Lib.hid hH
  clear hE hH
  by_cases hz : nf = 0
  case pos =>
    subst hz
    have HQ := Lib.hid ((congrArg (mkX k cert 0) HRE.out).trans (mk_bad (.inl rfl)))
    go_wp2_with (refine wpRow_store rfl 37 _ _ rfl rfl w.heap.size (seRow 0 (.slice none 0 0) (.slice none 0 0) 0 0) rfl rfl 37 #[.int .i64 0, .slice none 0 0, .slice none 0 0, .int .i64 0, .int .i64 0] Z2.out info_se rfl (seRow_one _ _ _ rfl rfl) ?_)
    have RZ : SeAt (w2.setRow w.heap.size (seRow 0 (.slice none 0 0) (.slice none 0 0) 0 0)) w.heap.size seZ (.slice none 0 0) (.slice none 0 0) := row_at Z2.out
    have q0 : _ = some (Value.int .i64 0) := RZ.c0
    have q1 := RZ.c1
    have q2 := RZ.c2
    have q3 : _ = some (Value.int .i64 0) := RZ.c3
    have q4 : _ = some (Value.int .i64 0) := RZ.c4
    refine bodyPost_ret (v := .tuple #[.agg #[.int .i64 0, .slice none 0 0, .slice none 0 0, .int .i64 0, .int .i64 0], .int .i64 2]) ?_ rfl ⟨ext_setRow X2.out (Nat.le_refl _) _, .inl ⟨2, HQ.out, (by decide), rfl⟩⟩
    simp [results, Tryz.results14, go_sem, q0, q1, q2, q3, q4]
  have HNF := Lib.hid hz
  have hzb : ((nf : Int) == 0) = false := by simp; exact hz
  clear hz
  go_wp2_with fail
  refine (cert16_any w2 (HR.out.ext X2.out)).mono ?_
  rintro e w3 ⟨rfl, rfl⟩
  obtain ⟨P, hP⟩ : ∃ P, crtX cert = P := ⟨_, rfl⟩
  have HP := Lib.hid hP
  rw [hP]
  clear hP
  cases P
  case false =>
    have HQ := Lib.hid ((congrArg (mkX k cert nf) HRE.out).trans (mk_bad (.inr HP.out)))
    go_wp2_with (refine wpRow_store rfl 37 _ _ rfl rfl w.heap.size (seRow 0 (.slice none 0 0) (.slice none 0 0) 0 0) rfl rfl 37 #[.int .i64 0, .slice none 0 0, .slice none 0 0, .int .i64 0, .int .i64 0] Z2.out info_se rfl (seRow_one _ _ _ rfl rfl) ?_)
    have RZ : SeAt (w2.setRow w.heap.size (seRow 0 (.slice none 0 0) (.slice none 0 0) 0 0)) w.heap.size seZ (.slice none 0 0) (.slice none 0 0) := row_at Z2.out
    have q0 : _ = some (Value.int .i64 0) := RZ.c0
    have q1 := RZ.c1
    have q2 := RZ.c2
    have q3 : _ = some (Value.int .i64 0) := RZ.c3
    have q4 : _ = some (Value.int .i64 0) := RZ.c4
    refine bodyPost_ret (v := .tuple #[.agg #[.int .i64 0, .slice none 0 0, .slice none 0 0, .int .i64 0, .int .i64 0], .int .i64 2]) ?_ rfl ⟨ext_setRow X2.out (Nat.le_refl _) _, .inl ⟨2, HQ.out, (by decide), rfl⟩⟩
    simp [results, Tryz.results14, go_sem, q0, q1, q2, q3, q4]
  have HV := Lib.hid ((congrArg (mkX k cert nf) HRE.out).trans (mk_go HNF.out HP.out))
  go_wp2_with fail
  refine (clone_any w2 (HR.out.ext X2.out) hl).mono ?_
  rintro e w5 ⟨A8, n8, c8, rfl, hn8, o8, b8⟩
  have X5 := Lib.hid (X2.out.tr b8)
  have Z5 := Lib.hid (Z2.out.ext b8)
  have HH5 := Lib.hid (HHR.out.ext b8)
  have R5 := Lib.hid o8.rd
  clear b8 o8 hn8
  obtain ⟨w6, hw6⟩ : ∃ w6, w6 = w5.alloc (.cells #[.int .i64 1, .slice A1 n1 c1, .slice A8 n8 c8, .int .i64 0, .int .i64 0] 37) := ⟨_, rfl⟩
  have F6 := Lib.hid (show Ext w5 w6 by rw [hw6]; exact (Below.refl _ _).alloc (Nat.le_refl _) _)
  have S6 := Lib.hid (show SeAt w6 w5.heap.size ⟨1, [], [], 0, 0⟩ (.slice A1 n1 c1) (.slice A8 n8 c8) by rw [hw6]; exact heap_alloc_new' w5 _)
  go_upto_region 7 with fail
  rw [← hw6]
  clear hw6
  obtain ⟨g, hg⟩ : ∃ g, w5.heap.size = g := ⟨_, rfl⟩
  have HGE := Lib.hid (show w5.heap.size ≤ g by omega)
  rw [hg] at S6 ⊢
  clear hg
  have X6 := Lib.hid (X5.out.tr F6.out)
  obtain ⟨l, hl9⟩ : ∃ l, msgB ⟨1, hs, cert, 0, 0⟩ = l := ⟨_, rfl⟩
  have HLE := Lib.hid (hl9 ▸ msgB_le ⟨1, hs, cert, 0, 0⟩ : l.length ≤ 1000)
  have HM := Lib.hid (message_any ⟨1, hs, cert, 0, 0⟩ (.slice A1 n1 c1) (.slice A8 n8 c8) w6 ⟨HH5.out.ext F6.out, R5.out.ext F6.out⟩)
  rw [hl9] at HV HM
  clear hl9
  go_wp2_with (refine wpList_load_row rfl 37 _ rfl g rfl 37 (seRow 1 (.slice A1 n1 c1) (.slice A8 n8 c8) 0 0) (0, 0) _ S6.out Tryz.underlying37 rfl info_se ?_)
  refine HM.out.mono ?_
  rintro e w7 ⟨A9, n9, c9, rfl, hn9, r9, b9⟩
  have F7 := Lib.hid (F6.out.tr b9)
  have S7 := Lib.hid (S6.out.ext b9)
  have R9 := Lib.hid r9
  clear b9 r9 hn9 HM
  go_wp2_with fail
  refine (sign_any k w7 R9.out (Nat.le_trans HLE.out (by omega)) (HKT.out w7 (X5.out.tr F7.out))).mono ?_
  rintro e w9 ⟨rfl, b9⟩
  unfold sgV
  have F8 := Lib.hid (F7.out.tr b9)
  have S8 := Lib.hid (S7.out.ext b9)
  have R8 := Lib.hid (R5.out.ext F8.out)
  clear b9
  have y3 : _ = some (Value.int .i64 0) := S8.out.c3
  have yf3 := S8.out.frozen 3
  have gl := S8.out.lt
  generalize hDE : sE k l = zE at *
  generalize hDS : sS k l = zS at *
  generalize hDK : sK k = zK at *
  clear hDE hDS hDK
  obtain ⟨wd, hwd⟩ : ∃ wd, w9.setCell ⟨g, 3, none⟩ (.int .i64 zE) = wd := ⟨_, rfl⟩
  have Sa := Lib.hid (show SeAt wd g ⟨1, [], [], zE, 0⟩ (.slice A1 n1 c1) (.slice A8 n8 c8) from hwd ▸ S8.out.set3 zE)
  have Fa := Lib.hid (show Ext w5 wd from hwd ▸ ext_setE F8.out HGE.out)
  have y4 : _ = some (Value.int .i64 0) := Sa.out.c4
  have yf4 := Sa.out.frozen 4
  have gla := Sa.out.lt
  obtain ⟨wf, hwf⟩ : ∃ wf, wd.setCell ⟨g, 4, none⟩ (.int .i64 zS) = wf := ⟨_, rfl⟩
  have S9 := Lib.hid (show SeAt wf g ⟨1, [], [], zE, zS⟩ (.slice A1 n1 c1) (.slice A8 n8 c8) from hwf ▸ Sa.out.set4 zS)
  have F9 := Lib.hid (show Ext w5 wf from hwf ▸ ext_setE Fa.out HGE.out)
  have X9 := Lib.hid (X5.out.tr F9.out)
  have Z9 := Lib.hid (Z5.out.ext F9.out)
  by_cases hds : zK = 0
  case neg =>
    have HQ := Lib.hid (HV.out.trans (if_pos hds))
    have HK := Lib.hid hds
    have hkb : (zK != 0) = true := by simpa using hds
    clear hds
    go_wp2_with (refine wpRow_store rfl 37 _ _ rfl rfl w.heap.size (seRow 0 (.slice none 0 0) (.slice none 0 0) 0 0) rfl rfl 37 #[.int .i64 0, .slice none 0 0, .slice none 0 0, .int .i64 0, .int .i64 0] Z9.out info_se rfl (seRow_one _ _ _ rfl rfl) ?_)
    have RZ : SeAt (wf.setRow w.heap.size (seRow 0 (.slice none 0 0) (.slice none 0 0) 0 0)) w.heap.size seZ (.slice none 0 0) (.slice none 0 0) := row_at Z9.out
    have q0 : _ = some (Value.int .i64 0) := RZ.c0
    have q1 := RZ.c1
    have q2 := RZ.c2
    have q3 : _ = some (Value.int .i64 0) := RZ.c3
    have q4 : _ = some (Value.int .i64 0) := RZ.c4
    refine bodyPost_ret (v := .tuple #[.agg #[.int .i64 0, .slice none 0 0, .slice none 0 0, .int .i64 0, .int .i64 0], .int .i64 zK]) ?_ rfl ⟨ext_setRow X9.out (Nat.le_refl _) _, .inl ⟨zK, HQ.out, HK.out, rfl⟩⟩
    simp [results, Tryz.results14, go_sem, q0, q1, q2, q3, q4]
  have HQ := Lib.hid (HV.out.trans (if_neg (not_not_intro hds)))
  subst hds
  go_wp2_with (first | (refine wpList_load_row rfl 37 _ rfl g rfl 37 (seRow 1 (.slice A1 n1 c1) (.slice A8 n8 c8) zE zS) (0, 0) _ S9.out Tryz.underlying37 rfl info_se ?_) | (refine wpRow_store rfl 37 _ _ rfl rfl w.heap.size (seRow 1 (.slice A1 n1 c1) (.slice A8 n8 c8) zE zS) rfl rfl 37 #[.int .i64 0, .slice none 0 0, .slice none 0 0, .int .i64 0, .int .i64 0] Z9.out info_se rfl (seRow_one _ _ _ rfl rfl) ?_))
  have RZ : SeAt (wf.setRow w.heap.size (seRow 1 (.slice A1 n1 c1) (.slice A8 n8 c8) zE zS)) w.heap.size ⟨1, [], [], zE, zS⟩ (.slice A1 n1 c1) (.slice A8 n8 c8) := row_at Z9.out
  have q0 : _ = some (Value.int .i64 1) := RZ.c0
  have q1 := RZ.c1
  have q2 := RZ.c2
  have q3 : _ = some (Value.int .i64 zE) := RZ.c3
  have q4 : _ = some (Value.int .i64 zS) := RZ.c4
  refine bodyPost_ret (v := .tuple #[seV ⟨1, hs, cert, zE, zS⟩ (.slice A1 n1 c1) (.slice A8 n8 c8), .int .i64 0]) ?_ rfl ⟨ext_setRow X9.out (Nat.le_refl _) _, .inr ⟨_, _, _, HQ.out, rfl, ⟨Z9.out.hs (HH5.out.ext F9.out) (HH0.out hs HRE.out) _, Z9.out.rd (R5.out.ext F9.out) _⟩⟩⟩
  simp [results, Tryz.results14, go_sem, seV, q0, q1, q2, q3, q4]
end Go.Proofs.YthbpdhanljpigaaGreatDoor
