/- Parts Xu Xy of the proof. -/
import Derived.Test.YthbpdhanljpigaaGreatDoorVbc
import Derived.Test.YthbpdhanljpigaaGreatDoorVbg
import Derived.Test.YthbpdhanljpigaaGreatDoorVbf
import Derived.Test.YthbpdhanljpigaaGreatDoorVao
namespace Go.Proofs.YthbpdhanljpigaaGreatDoor
open Go.RowKit
set_option linter.unusedVariables false
set_option maxRecDepth 100000
theorem encK_in16 {e s : Int} (he : 0 ≤ e ∧ e < 1073741789) (hs : 0 ≤ s ∧ s < 1073741789) : encK e s = 0 := if_pos ⟨inB_yes he.1 he.2, inB_yes hs.1 hs.2⟩
theorem mk_aw : ∃ e s, mkX 7 [1] 1 (hs1X g1B) = .ok (awS e s) ∧ vdS (awS e s) = 0 := by
  have hk : inB 1 1073741789 7 = true := inB_yes (by decide) (by decide)
  refine ⟨sE 7 (msgB ⟨1, [(1, sha g1B)], [1], 0, 0⟩), sS 7 (msgB ⟨1, [(1, sha g1B)], [1], 0, 0⟩), ?_, ?_⟩
  · rw [hs1_g1]
    refine (mk_go (by decide) (by decide)).trans ?_
    have h : sK 7 = 0 := if_pos hk
    rw [h]
    exact if_neg (by decide)
  · generalize msgB ⟨1, [(1, sha g1B)], [1], 0, 0⟩ = l
    have h1 : sE 7 l = sigE 7 l := if_pos hk
    have h2 : sS 7 l = sigS 7 l := if_pos hk
    rw [h1, h2]
    unfold vdS
    rw [if_neg (not_not_intro (ck_aw _ _)), if_neg (by simp [awS])]
    exact if_neg (not_not_intro (encK_in16 (sigE_bd 7 l) (sigS_bd 7 l)))
set_option maxHeartbeats 8000000 in
theorem awake16_any (w : World) (G : GTab w 0) (GD : GTab w 1) (K : KTab w 2) : Calls Tryz.prog 9 #[] w (RetQ w (.bool true)) := by
  have HG := Lib.hid (fun W (e : Ext w W) => (G.ext e : GTab W _))
  have HD := Lib.hid (fun W (e : Ext w W) => (GD.ext e : GTab W _))
  have HK := Lib.hid (fun W (e : Ext w W) => (K.below e : KTab W _))
  clear G GD K
  obtain ⟨eA, sA, hmk, hvd⟩ := mk_aw
  have HMK := Lib.hid hmk
  have HVD := Lib.hid hvd
  clear hmk hvd
  obtain ⟨w1, hw1⟩ : ∃ w1, w.alloc (.cells #[.int .i64 1] 3) = w1 := ⟨_, rfl⟩
  have x1 : Ext w w1 := by rw [← hw1]; exact (Below.refl _ _).alloc (Nat.le_refl _) _
  have R1 := Lib.hid (show RdI w1 .i64 (.slice (some ⟨w.heap.size, 0, none⟩) 1 1) [1] by rw [← hw1]; exact Rd.lit w #[.int .i64 1] 3 1 rfl (by unfold maxLen; omega))
  have X1 := Lib.hid x1
  go_enter Tryz.func9, Tryz.ntmps9
  go_wp2_with fail
  clear hw1 x1
  refine (refcommon1_any w1 R1.out (HG.out w1 X1.out)).mono ?_
  rintro e w2 ⟨A2, n2, c2, rfl, hn2, o2, b2⟩
  have X2 := Lib.hid (X1.out.tr b2)
  have RC := Lib.hid o2.rd
  have Y2 := Lib.hid (Below.refl _ _ : Ext w2 w2)
  clear b2 o2 hn2
  obtain ⟨w3, hw3⟩ : ∃ w3, w2.alloc (.cells #[.int .u8 97, .int .u8 0] 5) = w3 := ⟨_, rfl⟩
  have x3 : Ext w2 w3 := by rw [← hw3]; exact (Below.refl _ _).alloc (Nat.le_refl _) _
  have R3 := Lib.hid (show Rd w3 (.slice (some ⟨w2.heap.size, 0, none⟩) 2 2) (bvs g1B) by rw [← hw3]; exact Rd.lit w2 #[.int .u8 97, .int .u8 0] 5 2 rfl (by unfold maxLen; omega))
  have X3 := Lib.hid (X2.out.tr x3)
  have Y3 := Lib.hid x3
  obtain ⟨w4, hw4⟩ : ∃ w4, w3.alloc (.cells #[.int .u8 1] 5) = w4 := ⟨_, rfl⟩
  have x4 : Ext w3 w4 := by rw [← hw4]; exact (Below.refl _ _).alloc (Nat.le_refl _) _
  have R4 := Lib.hid (show Rd w4 (.slice (some ⟨w3.heap.size, 0, none⟩) 1 1) (bvs [1]) by rw [← hw4]; exact Rd.lit w3 #[.int .u8 1] 5 1 rfl (by unfold maxLen; omega))
  have X4 := Lib.hid (X3.out.tr x4)
  have Y4 := Lib.hid (Y3.out.tr x4)
  obtain ⟨w5, hw5⟩ : ∃ w5, w4.alloc (.cells #[.slice (some ⟨w2.heap.size, 0, none⟩) 2 2] 26) = w5 := ⟨_, rfl⟩
  have x5 : Ext w4 w5 := by rw [← hw5]; exact (Below.refl _ _).alloc (Nat.le_refl _) _
  have R5 := Lib.hid (show Rd w5 (.slice (some ⟨w4.heap.size, 0, none⟩) 1 1) [.slice (some ⟨w2.heap.size, 0, none⟩) 2 2] by rw [← hw5]; exact Rd.lit w4 #[.slice (some ⟨w2.heap.size, 0, none⟩) 2 2] 26 1 rfl (by unfold maxLen; omega))
  have X5 := Lib.hid (X4.out.tr x5)
  have Y5 := Lib.hid (Y4.out.tr x5)
  have RF := Lib.hid (R3.out.ext x4)
  have RF5 := Lib.hid (RF.out.ext x5)
  have R45 := Lib.hid (R4.out.ext x5)
  clear x3 x4 x5
  go_wp2_with fail
  clear hw3 hw4 hw5
  refine (make16_any (r := hs1X g1B) 7 w5 R45.out (by simp) (fun W e => hashes1_any W (R5.out.ext e) (RF5.out.ext e) (by simp [g1B]) (HD.out W (X5.out.tr e)) (HK.out W (X5.out.tr e))) (fun hs h x hx => by rw [hs1_g1] at h; injection h with h; subst h; rw [List.mem_singleton.1 hx]; decide) (by omega) (HK.out w5 X5.out)).mono ?_
  rintro e w6 ⟨b6, h⟩
  have X6 := Lib.hid (X5.out.tr b6)
  have Y6 := Lib.hid (Y5.out.tr b6)
  have RF6 := Lib.hid (RF5.out.ext b6)
  clear b6
  rcases h with ⟨z, hE, _, _⟩ | ⟨s, vh, vc, hE, rfl, hS⟩
  · rw [HMK.out] at hE; cases hE
  rw [HMK.out] at hE
  obtain rfl : awS eA sA = s := by injection hE
  have HS := Lib.hid hS
  obtain ⟨Ah, nh, ch, rfl, hnh, _⟩ := hS.h.open_
  obtain ⟨Ac, nc, cc, rfl, hnc, _⟩ := hS.c.bytes
  clear hE hS hnh hnc
  obtain ⟨w7, hw7⟩ : ∃ w7, w7 = w6.alloc (.cells #[.int .i64 (awS eA sA).v, .slice Ah nh ch, .slice Ac nc cc, .int .i64 (awS eA sA).e, .int .i64 (awS eA sA).s] 37) := ⟨_, rfl⟩
  have x7 : Ext w6 w7 := by rw [hw7]; exact (Below.refl _ _).alloc (Nat.le_refl _) _
  have S7 := Lib.hid (show SeAt w7 w6.heap.size (awS eA sA) (.slice Ah nh ch) (.slice Ac nc cc) by rw [hw7]; exact heap_alloc_new' w6 _)
  have X7 := Lib.hid (X6.out.tr x7)
  have Y7 := Lib.hid (Y6.out.tr x7)
  have RF7 := Lib.hid (RF6.out.ext x7)
  have HS7 := Lib.hid (HS.out.ext x7)
  clear x7
  unfold seV
  go_upto_region 4 with fail
  rw [← hw7]
  clear hw7
  obtain ⟨g, hg⟩ : ∃ g, w6.heap.size = g := ⟨_, rfl⟩
  rw [hg] at S7 ⊢
  clear hg
  obtain ⟨w8, hw8⟩ : ∃ w8, w7.alloc (.cells #[.slice (some ⟨w2.heap.size, 0, none⟩) 2 2] 26) = w8 := ⟨_, rfl⟩
  have x8 : Ext w7 w8 := by rw [← hw8]; exact (Below.refl _ _).alloc (Nat.le_refl _) _
  have R8 := Lib.hid (show Rd w8 (.slice (some ⟨w7.heap.size, 0, none⟩) 1 1) [.slice (some ⟨w2.heap.size, 0, none⟩) 2 2] by rw [← hw8]; exact Rd.lit w7 #[.slice (some ⟨w2.heap.size, 0, none⟩) 2 2] 26 1 rfl (by unfold maxLen; omega))
  have X8 := Lib.hid (X7.out.tr x8)
  have Y8 := Lib.hid (Y7.out.tr x8)
  have RF8 := Lib.hid (RF7.out.ext x8)
  have HS8 := Lib.hid (HS7.out.ext x8)
  have S8 := Lib.hid (S7.out.ext x8)
  clear x8
  go_wp2_with (refine wpList_load_row rfl 37 _ rfl g rfl 37 (seRow (awS eA sA).v (.slice Ah nh ch) (.slice Ac nc cc) (awS eA sA).e (awS eA sA).s) (0, 0) _ S7.out Tryz.underlying37 rfl info_se ?_)
  clear hw8
  refine (differ16_any (r := hs1X g1B) (awS eA sA) (.slice Ah nh ch) (.slice Ac nc cc) w8 HS8.out (fun W e => hashes1_any W (R8.out.ext e) (RF8.out.ext e) (by simp [g1B]) (HD.out W (X8.out.tr e)) (HK.out W (X8.out.tr e))) (fun hs h => by rw [hs1_g1] at h; injection h with h; subst h; simp)).mono ?_
  rintro e w9 ⟨b9, h⟩
  have X9 := Lib.hid (X8.out.tr b9)
  have Y9 := Lib.hid (Y8.out.tr b9)
  have S9 := Lib.hid (S8.out.ext b9)
  have HS9 := Lib.hid (HS8.out.ext b9)
  have HDF := Lib.hid (show difX (awS eA sA) (hs1X g1B) = .ok [] by rw [hs1_g1, dif_ok HVD.out, df_aw])
  clear b9
  rcases h with ⟨z, hE, _, _⟩ | ⟨l, A9, n9, c9, hE, rfl, hn9, _⟩
  · rw [HDF.out] at hE; cases hE
  rw [HDF.out] at hE
  obtain rfl : [] = l := by injection hE
  obtain rfl : n9 = 0 := hn9
  clear hE
  obtain ⟨wa, hwa⟩ : ∃ wa, w9.alloc (.cells #[.slice A2 n2 c2] 26) = wa := ⟨_, rfl⟩
  have xa : Ext w9 wa := by rw [← hwa]; exact (Below.refl _ _).alloc (Nat.le_refl _) _
  have Ra := Lib.hid (show Rd wa (.slice (some ⟨w9.heap.size, 0, none⟩) 1 1) [.slice A2 n2 c2] by rw [← hwa]; exact Rd.lit w9 #[.slice A2 n2 c2] 26 1 rfl (by unfold maxLen; omega))
  have Xa := Lib.hid (X9.out.tr xa)
  have Ya := Lib.hid (Y9.out.tr xa)
  have HSa := Lib.hid (HS9.out.ext xa)
  have Sa := Lib.hid (S9.out.ext xa)
  have RCa := Lib.hid (RC.out.ext Ya.out)
  clear xa
  go_wp2_with fail
  clear hwa
  refine (hashes1_any wa Ra.out RCa.out (by rw [comB_eq]; simp) (HD.out wa Xa.out) (HK.out wa Xa.out)).mono ?_
  rintro e wb ⟨bb, h⟩
  have Xb := Lib.hid (Xa.out.tr bb)
  have Sb := Lib.hid (Sa.out.ext bb)
  have HSb := Lib.hid (HSa.out.ext bb)
  clear bb
  rcases h with ⟨z, hE, _, rfl⟩ | ⟨hs, Ab, nb, cb, hE, _, _⟩
  case inr => rw [hs1_com] at hE; cases hE
  rw [hs1_com] at hE
  obtain rfl : 3 = z := by injection hE
  clear hE
  go_wp2_with (refine wpList_load_row rfl 37 _ rfl g rfl 37 (seRow (awS eA sA).v (.slice Ah nh ch) (.slice Ac nc cc) (awS eA sA).e (awS eA sA).s) (0, 0) _ Sb.out Tryz.underlying37 rfl info_se ?_)
  refine (message_any (awS eA sA) (.slice Ah nh ch) (.slice Ac nc cc) wb HSb.out).mono ?_
  rintro e wc ⟨Ac', nc', cc', rfl, hnc, _, bc⟩
  have Xc := Lib.hid (Xb.out.tr bc)
  obtain rfl : nc' = 46 := hnc.out.trans (msg_aw eA sA)
  clear hnc bc
  rw [ck_aw]
  go_wp2_with fail
  go_ret
  exact ⟨rfl, Xc.out⟩
end Go.Proofs.YthbpdhanljpigaaGreatDoor
namespace Go.Proofs.YthbpdhanljpigaaGreatDoor
open Go.RowKit
set_option linter.unusedVariables false
set_option maxRecDepth 100000
/-- What Decode returns beside its error. -/
def decS : Except Int SE → SE
  | .error _ => seZ
  | .ok s => s
def decE : Except Int SE → Int
  | .error k => k
  | .ok _ => 0
theorem DecQ.both {w w' : World} {r : Except Int SE} {e : Ending} (h : DecQ w r e w') : ∃ vh vc, e = .returned (.tuple #[seV (decS r) vh vc, .int .i64 (decE r)]) ∧ SeR w' (decS r) vh vc ∧ Ext w w' := by
  obtain ⟨b, ⟨k, rfl, _, rfl⟩ | ⟨s, vh, vc, rfl, rfl, h⟩⟩ := h
  · exact ⟨.slice none 0 0, .slice none 0 0, rfl, ⟨HsRd.nil_ _, Rd.nil_ _⟩, b⟩
  · exact ⟨vh, vc, rfl, h, b⟩
theorem same_yes {a b : Value} {xs : List UInt8} (w : World) (ha : Rd w a (bvs xs)) (hb : Rd w b (bvs xs)) : Calls Tryz.prog 32 #[a, b] w (RetQ w (.bool true)) := by
  have h := same_any w ha hb
  rw [decide_eq_true rfl] at h
  exact h
set_option maxHeartbeats 16000000 in
theorem exact16_any {s : SE} {vh vc vb : Value} {l : List UInt8} (w : World) (hr : SeR w s vh vc) (hb : Rd w vb (bvs l)) (hl : l.length ≤ 140737488351232)
    (G : GTab w 0) (K : KTab w 2) (GD : GTab w 1) : Calls Tryz.prog 5 #[seV s vh vc, vb] w (RetQ w (.bool true)) := by
  obtain ⟨A0, n0, c0, rfl, hn, -⟩ := hr.h.open_
  obtain ⟨Ac, nc, cc0, rfl, hnc', -⟩ := hr.c.bytes
  subst hn hnc'
  have HAW := Lib.hid (fun W (e : Ext w W) => awake16_any W (G.ext e) (GD.ext e) (K.below e))
  have HG := Lib.hid (fun W (e : Ext w W) => (G.ext e : GTab W _))
  have HD := Lib.hid (fun W (e : Ext w W) => (GD.ext e : GTab W _))
  obtain ⟨wz, hwz, ez, TZ⟩ := se_alloc w s (.slice A0 s.hs.length c0) (.slice Ac s.cert.length cc0)
  have Xz := Lib.hid ez
  have Yz := Lib.hid (show Ext wz wz from Below.refl _ _)
  have HTZ := Lib.hid TZ
  have HR := Lib.hid hr
  have HB := Lib.hid hb
  have HL := Lib.hid hl
  clear hr hb hl G K GD ez TZ
  obtain ⟨t, hS⟩ : ∃ t, decS (decX l) = t := ⟨_, rfl⟩
  obtain ⟨k, hK⟩ : ∃ k, decE (decX l) = k := ⟨_, rfl⟩
  unfold seV
  go_enter Tryz.func5, Tryz.ntmps5
  go_upto_region 1 with fail
  rw [← hwz]
  clear hwz
  have HZ := Lib.hid (HTZ.out.ext Yz.out)
  go_wp2_with (refine wpList_load_row rfl 37 _ rfl w.heap.size rfl 37 (seRow s.v (.slice A0 s.hs.length c0) (.slice Ac s.cert.length cc0) s.e s.s) (0, 0) _ HZ.out Tryz.underlying37 rfl info_se ?_)
  refine (message_any s _ _ wz (HR.out.ext Xz.out)).mono ?_
  rintro e w2 ⟨A2, n2, c2, rfl, hn2, r2, b2⟩
  have X2 := Lib.hid (Xz.out.tr b2)
  have Y2 := Lib.hid (Yz.out.tr b2)
  have R2 := Lib.hid r2
  clear HZ b2 r2 hn2
  have HZ := Lib.hid (HTZ.out.ext Y2.out)
  go_wp2_with (refine wpList_load_row rfl 37 _ rfl w.heap.size rfl 37 (seRow s.v (.slice A0 s.hs.length c0) (.slice Ac s.cert.length cc0) s.e s.s) (0, 0) _ HZ.out Tryz.underlying37 rfl info_se ?_)
  refine (refmessage_any s _ _ w2 (HR.out.ext X2.out)).mono ?_
  rintro e w3 ⟨A3, n3, c3, rfl, hn3, r3, b3⟩
  have X3 := Lib.hid (X2.out.tr b3)
  have Y3 := Lib.hid (Y2.out.tr b3)
  have R3 := Lib.hid r3
  have B3 := Lib.hid b3
  clear HZ b3 r3 hn3
  have HZ := Lib.hid (HTZ.out.ext Y3.out)
  go_wp2_with (refine wpList_load_row rfl 37 _ rfl w.heap.size rfl 37 (seRow s.v (.slice A0 s.hs.length c0) (.slice Ac s.cert.length cc0) s.e s.s) (0, 0) _ HZ.out Tryz.underlying37 rfl info_se ?_)
  refine (encode16_any s _ _ w3 (HR.out.ext X3.out) (HD.out w3 X3.out)).mono ?_
  rintro e w4 ⟨A4, n4, c4, rfl, hn4, r4, b4⟩
  have X4 := Lib.hid (X3.out.tr b4)
  have Y4 := Lib.hid (Y3.out.tr b4)
  have R4 := Lib.hid r4
  have B4 := Lib.hid b4
  clear HZ b4 r4 hn4
  have HZ := Lib.hid (HTZ.out.ext Y4.out)
  go_wp2_with (refine wpList_load_row rfl 37 _ rfl w.heap.size rfl 37 (seRow s.v (.slice A0 s.hs.length c0) (.slice Ac s.cert.length cc0) s.e s.s) (0, 0) _ HZ.out Tryz.underlying37 rfl info_se ?_)
  refine (refencode16_any s _ _ w4 (HR.out.ext X4.out) (HG.out w4 X4.out)).mono ?_
  rintro e w5 ⟨A5, n5, c5, rfl, hn5, r5, b5⟩
  have X5 := Lib.hid (X4.out.tr b5)
  have Y5 := Lib.hid (Y4.out.tr b5)
  have R5 := Lib.hid r5
  have B5 := Lib.hid b5
  clear HZ b5 r5 hn5
  go_wp2_with fail
  refine (decode16_any w5 (HB.out.ext X5.out) (Nat.le_trans HL.out (by omega)) (HD.out w5 X5.out)).mono ?_
  rintro e wd6 hd
  obtain ⟨vh6, vc6, rfl, sr6, b6⟩ := DecQ.both hd
  rw [hS, hK]
  rw [hS] at sr6
  obtain ⟨Ah6, nh6, ch6, rfl, hnh, -⟩ := sr6.h.open_
  obtain ⟨Ad6, nd6, cd6, rfl, hnd, -⟩ := sr6.c.bytes
  subst hnh hnd
  obtain ⟨w6, hw6⟩ : ∃ w6, w6 = wd6.alloc (.cells #[.int .i64 t.v, .slice Ah6 t.hs.length ch6, .slice Ad6 t.cert.length cd6, .int .i64 t.e, .int .i64 t.s] 37) := ⟨_, rfl⟩
  have x6 : Ext wd6 w6 := by rw [hw6]; exact (Below.refl _ _).alloc (Nat.le_refl _) _
  have S6 := Lib.hid (show SeAt w6 wd6.heap.size t (.slice Ah6 t.hs.length ch6) (.slice Ad6 t.cert.length cd6) by rw [hw6]; exact heap_alloc_new' wd6 _)
  have X6 := Lib.hid (X5.out.tr (b6.tr x6))
  have Y6 := Lib.hid (Y5.out.tr (b6.tr x6))
  have Q6 := Lib.hid (sr6.ext x6)
  have W6 := Lib.hid (show Ext w5 w6 from b6.tr x6)
  clear hd sr6 b6 x6
  unfold seV
  go_upto_region 6 with fail
  rw [← hw6]
  clear hw6
  obtain ⟨g6, hg6⟩ : ∃ g, wd6.heap.size = g := ⟨_, rfl⟩
  rw [hg6] at S6 ⊢
  clear hg6
  go_wp2_with fail
  refine (refdecode16_any w6 (HB.out.ext X6.out) (Nat.le_trans HL.out (by omega)) (HG.out w6 X6.out)).mono ?_
  rintro e wd7 hd
  obtain ⟨vh7, vc7, rfl, sr7, b7⟩ := DecQ.both hd
  rw [hS, hK]
  rw [hS] at sr7
  obtain ⟨Ah7, nh7, ch7, rfl, hnh, -⟩ := sr7.h.open_
  obtain ⟨Ad7, nd7, cd7, rfl, hnd, -⟩ := sr7.c.bytes
  subst hnh hnd
  obtain ⟨w7, hw7⟩ : ∃ w7, w7 = wd7.alloc (.cells #[.int .i64 t.v, .slice Ah7 t.hs.length ch7, .slice Ad7 t.cert.length cd7, .int .i64 t.e, .int .i64 t.s] 37) := ⟨_, rfl⟩
  have x7 : Ext wd7 w7 := by rw [hw7]; exact (Below.refl _ _).alloc (Nat.le_refl _) _
  have S7 := Lib.hid (show SeAt w7 wd7.heap.size t (.slice Ah7 t.hs.length ch7) (.slice Ad7 t.cert.length cd7) by rw [hw7]; exact heap_alloc_new' wd7 _)
  have X7 := Lib.hid (X6.out.tr (b7.tr x7))
  have Y7 := Lib.hid (Y6.out.tr (b7.tr x7))
  have Q7 := Lib.hid (sr7.ext x7)
  have W7 := Lib.hid (show Ext w6 w7 from b7.tr x7)
  clear hd sr7 b7 x7
  unfold seV
  go_upto_region 7 with fail
  rw [← hw7]
  clear hw7
  obtain ⟨g7, hg7⟩ : ∃ g, wd7.heap.size = g := ⟨_, rfl⟩
  rw [hg7] at S7 ⊢
  clear hg7
  have Yd := Lib.hid (W6.out.tr W7.out)
  have Yc := Lib.hid (B5.out.tr Yd.out)
  have Yb := Lib.hid (B4.out.tr Yc.out)
  have Ya := Lib.hid (B3.out.tr Yb.out)
  have HZ := Lib.hid (HTZ.out.ext Y7.out)
  have HV1 := Lib.hid (fun W (e : Ext w W) => valid16P_any s (.slice A0 s.hs.length c0) (.slice Ac s.cert.length cc0) W (HR.out.ext e))
  have HV2 := Lib.hid (fun W (e : Ext w W) => valid16R_any s (.slice A0 s.hs.length c0) (.slice Ac s.cert.length cc0) W (HR.out.ext e))
  refine Gd.wp_region_X 38 (by kernel_rfl) (by kernel_rfl) ?_
  simp only [List.take_succ_cons, List.take_zero, List.drop_succ_cons, List.drop_zero]
  intro wq hw1
  have LL : ∀ m : Lt wq, Ext w7 m.1 := fun m => hw1.tr m.2
  have LW : ∀ m : Lt wq, Ext w m.1 := fun m => X7.out.tr (LL m)
  have p0 := fun m : Lt wq => (HZ.out.ext (LL m)).c0
  have q0 := fun m : Lt wq => ((S6.out.ext W7.out).ext (LL m)).c0
  have y0 := fun m : Lt wq => (S7.out.ext (LL m)).c0
  have p1 := fun m : Lt wq => (HZ.out.ext (LL m)).c1
  have q1 := fun m : Lt wq => ((S6.out.ext W7.out).ext (LL m)).c1
  have y1 := fun m : Lt wq => (S7.out.ext (LL m)).c1
  have p2 := fun m : Lt wq => (HZ.out.ext (LL m)).c2
  have q2 := fun m : Lt wq => ((S6.out.ext W7.out).ext (LL m)).c2
  have y2 := fun m : Lt wq => (S7.out.ext (LL m)).c2
  have p3 := fun m : Lt wq => (HZ.out.ext (LL m)).c3
  have q3 := fun m : Lt wq => ((S6.out.ext W7.out).ext (LL m)).c3
  have y3 := fun m : Lt wq => (S7.out.ext (LL m)).c3
  have p4 := fun m : Lt wq => (HZ.out.ext (LL m)).c4
  have q4 := fun m : Lt wq => ((S6.out.ext W7.out).ext (LL m)).c4
  have y4 := fun m : Lt wq => (S7.out.ext (LL m)).c4
  have pl := fun m : Lt wq => (HZ.out.ext (LL m)).lt
  have ql := fun m : Lt wq => ((S6.out.ext W7.out).ext (LL m)).lt
  have yl := fun m : Lt wq => (S7.out.ext (LL m)).lt
  repeat (refine Gd.wpX_pureP rfl fun K hK => ?_; go_big_quiet_op; refine hK _ ?_; clear hK K)
  refine Gd.wpX_callFn (Gd.gR rfl) (.bool true) (args := []) rfl rfl rfl rfl (by kernel_rfl) rfl rfl (fun m => (HAW.out m.1 (LW m)).mono fun _ _ ⟨h1, h2⟩ => ⟨h1, h2⟩) ?_
  simp only [Act.put, List.setIfInBounds_toArray, List.set_cons_zero, List.set_cons_succ]
  try simp only [beq_self_eq_true]
  repeat (refine Gd.wpX_pureP rfl fun K hK => ?_; go_big_quiet_op; refine hK _ ?_; clear hK K)
  try simp only [beq_self_eq_true]
  repeat (refine Gd.wpX_pureP rfl fun K hK => ?_; go_big_quiet_op; refine hK _ ?_; clear hK K)
  refine Gd.wpX_callFn (Gd.gR rfl) (.int .i64 (vdS s)) (args := [.agg #[.int .i64 s.v, .slice A0 s.hs.length c0, .slice Ac s.cert.length cc0, .int .i64 s.e, .int .i64 s.s]]) rfl rfl rfl rfl (by kernel_rfl) rfl rfl (fun m => (HV1.out m.1 (LW m)).mono fun _ _ ⟨h1, h2⟩ => ⟨h1, h2⟩) ?_
  simp only [Act.put, List.setIfInBounds_toArray, List.set_cons_zero, List.set_cons_succ]
  try simp only [beq_self_eq_true]
  repeat (refine Gd.wpX_pureP rfl fun K hK => ?_; go_big_quiet_op; refine hK _ ?_; clear hK K)
  try simp only [beq_self_eq_true]
  repeat (refine Gd.wpX_pureP rfl fun K hK => ?_; go_big_quiet_op; refine hK _ ?_; clear hK K)
  refine Gd.wpX_callFn (Gd.gR rfl) (.int .i64 (vdS s)) (args := [.agg #[.int .i64 s.v, .slice A0 s.hs.length c0, .slice Ac s.cert.length cc0, .int .i64 s.e, .int .i64 s.s]]) rfl rfl rfl rfl (by kernel_rfl) rfl rfl (fun m => (HV2.out m.1 (LW m)).mono fun _ _ ⟨h1, h2⟩ => ⟨h1, h2⟩) ?_
  simp only [Act.put, List.setIfInBounds_toArray, List.set_cons_zero, List.set_cons_succ]
  try simp only [beq_self_eq_true]
  repeat (refine Gd.wpX_pureP rfl fun K hK => ?_; go_big_quiet_op; refine hK _ ?_; clear hK K)
  try simp only [beq_self_eq_true]
  repeat (refine Gd.wpX_pureP rfl fun K hK => ?_; go_big_quiet_op; refine hK _ ?_; clear hK K)
  refine Gd.wpX_callFn (Gd.gR rfl) (.bool true) (args := [.slice A2 n2 c2, .slice A3 n3 c3]) rfl rfl rfl rfl (by kernel_rfl) rfl rfl (fun m => (same_yes m.1 (R2.out.ext (Ya.out.tr (LL m))) (R3.out.ext (Yb.out.tr (LL m)))).mono fun _ _ ⟨h1, h2⟩ => ⟨h1, h2⟩) ?_
  simp only [Act.put, List.setIfInBounds_toArray, List.set_cons_zero, List.set_cons_succ]
  try simp only [beq_self_eq_true]
  repeat (refine Gd.wpX_pureP rfl fun K hK => ?_; go_big_quiet_op; refine hK _ ?_; clear hK K)
  try simp only [beq_self_eq_true]
  repeat (refine Gd.wpX_pureP rfl fun K hK => ?_; go_big_quiet_op; refine hK _ ?_; clear hK K)
  refine Gd.wpX_callFn (Gd.gR rfl) (.bool true) (args := [.slice A4 n4 c4, .slice A5 n5 c5]) rfl rfl rfl rfl (by kernel_rfl) rfl rfl (fun m => (same_yes m.1 (R4.out.ext (Yc.out.tr (LL m))) (R5.out.ext (Yd.out.tr (LL m)))).mono fun _ _ ⟨h1, h2⟩ => ⟨h1, h2⟩) ?_
  simp only [Act.put, List.setIfInBounds_toArray, List.set_cons_zero, List.set_cons_succ]
  try simp only [beq_self_eq_true]
  repeat (refine Gd.wpX_pureP rfl fun K hK => ?_; go_big_quiet_op; refine hK _ ?_; clear hK K)
  try simp only [beq_self_eq_true]
  repeat (refine Gd.wpX_pureP rfl fun K hK => ?_; go_big_quiet_op; refine hK _ ?_; clear hK K)
  refine Gd.wpX_callFn (Gd.gR rfl) (.bool true) (args := [seV t (.slice Ah6 t.hs.length ch6) (.slice Ad6 t.cert.length cd6), seV t (.slice Ah7 t.hs.length ch7) (.slice Ad7 t.cert.length cd7)]) rfl rfl rfl rfl (by kernel_rfl) rfl rfl (fun m => (same16_any t _ _ _ _ m.1 (Q6.out.ext (W7.out.tr (LL m))) (Q7.out.ext (LL m))).mono fun _ _ ⟨h1, h2⟩ => ⟨h1, h2⟩) ?_
  simp only [Act.put, List.setIfInBounds_toArray, List.set_cons_zero, List.set_cons_succ]
  try simp only [beq_self_eq_true]
  repeat (refine Gd.wpX_pureP rfl fun K hK => ?_; go_big_quiet_op; refine hK _ ?_; clear hK K)
  try simp only [beq_self_eq_true]
  refine Gd.wpX_end0 (fun m => ?_)
  have LM := Lib.hid (LW m)
  clear hw1 LL LW p0 p1 p2 p3 p4 pl q0 q1 q2 q3 q4 ql y0 y1 y2 y3 y4 yl
  generalize m.1 = wm at *
  show wpList _ _ _ _ _ _
  go_wp2_with fail
  go_ret
  exact ⟨by simp, LM.out⟩
end Go.Proofs.YthbpdhanljpigaaGreatDoor
