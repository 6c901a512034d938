/- Parts Xd Xj of the proof. -/
import Derived.Test.YthbpdhanljpigaaGreatDoorVaz
import Derived.Test.YthbpdhanljpigaaGreatDoorVay
import Derived.Test.YthbpdhanljpigaaGreatDoorVaw
import Derived.Test.YthbpdhanljpigaaGreatDoorVao
import Derived.Test.YthbpdhanljpigaaGreatDoorVbc
namespace Go.Proofs.YthbpdhanljpigaaGreatDoor
open Go.RowKit
set_option linter.unusedVariables false
set_option maxRecDepth 100000
theorem pt_any {x p q r : Nd} (h : x.kids = [p, q, r]) (ha : x.kids.any n4B = true) : ptX [x] = none := by
  show (match x.kids with | [p, q, r] => _ | _ => none) = none
  rw [h] at ha ⊢
  refine if_neg ?_
  rintro ⟨_, h1, h2, h3⟩
  simp [n4B, h1, h2, h3] at ha
theorem pt_yes {x p q r : Nd} (h : x.kids = [p, q, r]) (ht : x.tag = 48) (ha : x.kids.any n4B = false) : ptX [x] = some (p.val, q.val, r.val) := by
  show (match x.kids with | [p, q, r] => _ | _ => none) = _
  rw [h] at ha ⊢
  simp [n4B] at ha
  exact if_pos ⟨ht, ha.1, ha.2.1, ha.2.2⟩
theorem opn_few {l : List UInt8} {n : Int} {ks : List Nd} (h : opnX l = .ok (n, ks)) : ∀ x ∈ ks, ∀ p ∈ x.kids, p.val.length ≤ 4096 := by
  unfold opnX at h
  split at h
  · cases h
  · rename_i y hy
    split at h
    · cases h
    · simp only [Except.ok.injEq, Prod.mk.injEq] at h
      obtain ⟨_, rfl⟩ := h
      intro x hx p hp
      exact (((parX_fewK hy 3 y (by simp)).2.2 x hx).2.2 p hp).2.1
  · cases h
set_option maxHeartbeats 8000000 in
theorem decode16_any {a : Value} {l : List UInt8} (w : World) (ha : Rd w a (bvs l)) (hl : l.length ≤ 140737488355328) (G : GTab w 1) : Calls Tryz.prog 28 #[a] w (DecQ w (decX l)) := by
  obtain ⟨A0, n0, c0, rfl, hn0, _⟩ := ha.bytes
  subst hn0
  obtain ⟨wz, hwz⟩ : ∃ wz, wz = w.alloc (.cells #[.int .i64 0, .slice none 0 0, .slice none 0 0, .int .i64 0, .int .i64 0] 37) := ⟨_, rfl⟩
  have xz := Lib.hid (show Ext w wz by rw [hwz]; exact (Below.refl _ _).alloc (Nat.le_refl _) _)
  have Z := Lib.hid (show SeAt wz w.heap.size seZ (.slice none 0 0) (.slice none 0 0) by rw [hwz]; exact heap_alloc_new' w _)
  have HO := Lib.hid (open16_any wz (ha.ext xz.out) hl (G.ext xz.out))
  clear ha hl G
  go_enter Tryz.func28, Tryz.ntmps28
  go_wp2_with fail
  rw [← hwz]
  clear hwz
  refine HO.out.mono ?_
  rintro e w2 ⟨b2, h⟩
  have X2 := Lib.hid (xz.out.tr b2)
  have Z2 := Lib.hid (Z.out.ext b2)
  clear b2
  rcases h with ⟨z, A, n, c, k, hE, hk, rfl⟩ | ⟨z, ks, A, n, c, hE, rfl, hr⟩
  · have HE := Lib.hid (dec_open hE)
    have HK := Lib.hid hk
    have hkb : (k != 0) = true := by simpa using hk
    clear hE hk
    go_wp2_with (refine wpRow_store rfl 37 _ _ rfl rfl w.heap.size (seRow 0 (.slice none 0 0) (.slice none 0 0) 0 0) rfl rfl 37 #[.int .i64 0, .slice none 0 0, .slice none 0 0, .int .i64 0, .int .i64 0] Z2.out info_se rfl (seRow_one _ _ _ rfl rfl) ?_)
    have RZ : SeAt (w2.setRow w.heap.size (seRow 0 (.slice none 0 0) (.slice none 0 0) 0 0)) w.heap.size seZ (.slice none 0 0) (.slice none 0 0) := row_at Z2.out
    have q0 : _ = some (Value.int .i64 0) := RZ.c0
    have q1 := RZ.c1
    have q2 := RZ.c2
    have q3 : _ = some (Value.int .i64 0) := RZ.c3
    have q4 : _ = some (Value.int .i64 0) := RZ.c4
    refine bodyPost_ret (v := .tuple #[.agg #[.int .i64 0, .slice none 0 0, .slice none 0 0, .int .i64 0, .int .i64 0], .int .i64 k]) ?_ rfl ⟨ext_setRow X2.out (Nat.le_refl _) _, .inl ⟨k, HE.out, HK.out, rfl⟩⟩
    simp [results, Tryz.results28, go_sem, q0, q1, q2, q3, q4]
  have HE := Lib.hid hE
  clear hE
  by_cases hz : z = 18
  case neg =>
    have hzb : (z != 18) = true := by simpa using hz
    have HQ := Lib.hid (dec_kind HE.out hz)
    clear hz hr
    go_wp2_with (refine wpRow_store rfl 37 _ _ rfl rfl w.heap.size (seRow 0 (.slice none 0 0) (.slice none 0 0) 0 0) rfl rfl 37 #[.int .i64 0, .slice none 0 0, .slice none 0 0, .int .i64 0, .int .i64 0] Z2.out info_se rfl (seRow_one _ _ _ rfl rfl) ?_)
    have RZ : SeAt (w2.setRow w.heap.size (seRow 0 (.slice none 0 0) (.slice none 0 0) 0 0)) w.heap.size seZ (.slice none 0 0) (.slice none 0 0) := row_at Z2.out
    have q0 : _ = some (Value.int .i64 0) := RZ.c0
    have q1 := RZ.c1
    have q2 := RZ.c2
    have q3 : _ = some (Value.int .i64 0) := RZ.c3
    have q4 : _ = some (Value.int .i64 0) := RZ.c4
    refine bodyPost_ret (v := .tuple #[.agg #[.int .i64 0, .slice none 0 0, .slice none 0 0, .int .i64 0, .int .i64 0], .int .i64 4]) ?_ rfl ⟨ext_setRow X2.out (Nat.le_refl _) _, .inl ⟨4, HQ.out, (by decide), rfl⟩⟩
    simp [results, Tryz.results28, go_sem, q0, q1, q2, q3, q4]
  subst hz
  obtain ⟨A', n', c', e', hn, hnc, hcm, hel⟩ := hr.open_
  injection e' with e1' e2' e3'
  subst e1' e2' e3'
  have HN := Lib.hid hn
  have HEL := Lib.hid hel
  unfold maxLen at hcm
  clear hr hel hn
  by_cases h1 : ks.length = 1
  case neg =>
    have h1b : ((n : Int) != 1) = true := by simp; have := HN.out; omega
    have HQ := Lib.hid (dec_part HE.out (pt_len h1))
    clear h1
    go_wp2_with (refine wpRow_store rfl 37 _ _ rfl rfl w.heap.size (seRow 0 (.slice none 0 0) (.slice none 0 0) 0 0) rfl rfl 37 #[.int .i64 0, .slice none 0 0, .slice none 0 0, .int .i64 0, .int .i64 0] Z2.out info_se rfl (seRow_one _ _ _ rfl rfl) ?_)
    have RZ : SeAt (w2.setRow w.heap.size (seRow 0 (.slice none 0 0) (.slice none 0 0) 0 0)) w.heap.size seZ (.slice none 0 0) (.slice none 0 0) := row_at Z2.out
    have q0 : _ = some (Value.int .i64 0) := RZ.c0
    have q1 := RZ.c1
    have q2 := RZ.c2
    have q3 : _ = some (Value.int .i64 0) := RZ.c3
    have q4 : _ = some (Value.int .i64 0) := RZ.c4
    refine bodyPost_ret (v := .tuple #[.agg #[.int .i64 0, .slice none 0 0, .slice none 0 0, .int .i64 0, .int .i64 0], .int .i64 1]) ?_ rfl ⟨ext_setRow X2.out (Nat.le_refl _) _, .inl ⟨1, HQ.out, (by decide), rfl⟩⟩
    simp [results, Tryz.results28, go_sem, q0, q1, q2, q3, q4]
  obtain ⟨x, rfl⟩ := one_of h1
  obtain rfl : n = 1 := HN.out
  obtain ⟨d1, ed1, bb, o, rfl, hbl, a1, m1, k1, a2, m2, k2, e0, e1, e2, r1, r2⟩ := HEL.out 0 x rfl
  simp only [Nat.zero_mul, Nat.add_zero] at e0 e1 e2
  have HFW := Lib.hid (opn_few HE.out x (by simp))
  obtain ⟨A', n', c', e', hm, hmc, hmm, hel⟩ := r2.open_
  injection e' with e1' e2' e3'
  subst e1' e2' e3'
  have HM := Lib.hid hm
  have HEK := Lib.hid hel
  have R2 := Lib.hid r2
  clear h1 r1 hel hm ed1 e1 r2
  by_cases ht : x.tag = 48
  case neg =>
    have htb : (x.tag != 48) = true := by simpa using ht
    have HQ := Lib.hid (dec_part HE.out (pt_tag ht))
    clear ht
    go_wp2_with (refine wpRow_store rfl 37 _ _ rfl rfl w.heap.size (seRow 0 (.slice none 0 0) (.slice none 0 0) 0 0) rfl rfl 37 #[.int .i64 0, .slice none 0 0, .slice none 0 0, .int .i64 0, .int .i64 0] Z2.out info_se rfl (seRow_one _ _ _ rfl rfl) ?_)
    have RZ : SeAt (w2.setRow w.heap.size (seRow 0 (.slice none 0 0) (.slice none 0 0) 0 0)) w.heap.size seZ (.slice none 0 0) (.slice none 0 0) := row_at Z2.out
    have q0 : _ = some (Value.int .i64 0) := RZ.c0
    have q1 := RZ.c1
    have q2 := RZ.c2
    have q3 : _ = some (Value.int .i64 0) := RZ.c3
    have q4 : _ = some (Value.int .i64 0) := RZ.c4
    refine bodyPost_ret (v := .tuple #[.agg #[.int .i64 0, .slice none 0 0, .slice none 0 0, .int .i64 0, .int .i64 0], .int .i64 1]) ?_ rfl ⟨ext_setRow X2.out (Nat.le_refl _) _, .inl ⟨1, HQ.out, (by decide), rfl⟩⟩
    simp [results, Tryz.results28, go_sem, q0, q1, q2, q3, q4]
  have HT := Lib.hid ht
  have htb : (x.tag != 48) = false := by simpa using ht
  clear ht
  by_cases h3 : x.kids.length = 3
  case neg =>
    have h3b : ((m2 : Int) != 3) = true := by simp; have := HM.out; omega
    have HQ := Lib.hid (dec_part HE.out (pt_kids h3))
    clear h3
    go_wp2_with (refine wpRow_store rfl 37 _ _ rfl rfl w.heap.size (seRow 0 (.slice none 0 0) (.slice none 0 0) 0 0) rfl rfl 37 #[.int .i64 0, .slice none 0 0, .slice none 0 0, .int .i64 0, .int .i64 0] Z2.out info_se rfl (seRow_one _ _ _ rfl rfl) ?_)
    have RZ : SeAt (w2.setRow w.heap.size (seRow 0 (.slice none 0 0) (.slice none 0 0) 0 0)) w.heap.size seZ (.slice none 0 0) (.slice none 0 0) := row_at Z2.out
    have q0 : _ = some (Value.int .i64 0) := RZ.c0
    have q1 := RZ.c1
    have q2 := RZ.c2
    have q3 : _ = some (Value.int .i64 0) := RZ.c3
    have q4 : _ = some (Value.int .i64 0) := RZ.c4
    refine bodyPost_ret (v := .tuple #[.agg #[.int .i64 0, .slice none 0 0, .slice none 0 0, .int .i64 0, .int .i64 0], .int .i64 1]) ?_ rfl ⟨ext_setRow X2.out (Nat.le_refl _) _, .inl ⟨1, HQ.out, (by decide), rfl⟩⟩
    simp [results, Tryz.results28, go_sem, q0, q1, q2, q3, q4]
  obtain ⟨p, q, r, hpqr⟩ := three_of h3
  obtain rfl : m2 = 3 := by have := HM.out; omega
  have HP := Lib.hid hpqr
  clear h3 hpqr
  go_wp2_with fail
  refine (n4has_any w2 R2.out).mono ?_
  rintro e w3 ⟨rfl, b3⟩
  have X3 := Lib.hid (X2.out.tr b3)
  have Z3 := Lib.hid (Z2.out.ext b3)
  have E3 := Lib.hid b3
  clear b3 e0 e2 htb
  cases hany : x.kids.any n4B
  case true =>
    have HQ := Lib.hid (dec_part HE.out (pt_any HP.out hany))
    clear hany
    go_wp2_with (refine wpRow_store rfl 37 _ _ rfl rfl w.heap.size (seRow 0 (.slice none 0 0) (.slice none 0 0) 0 0) rfl rfl 37 #[.int .i64 0, .slice none 0 0, .slice none 0 0, .int .i64 0, .int .i64 0] Z3.out info_se rfl (seRow_one _ _ _ rfl rfl) ?_)
    have RZ : SeAt (w3.setRow w.heap.size (seRow 0 (.slice none 0 0) (.slice none 0 0) 0 0)) w.heap.size seZ (.slice none 0 0) (.slice none 0 0) := row_at Z3.out
    have q0 : _ = some (Value.int .i64 0) := RZ.c0
    have q1 := RZ.c1
    have q2 := RZ.c2
    have q3 : _ = some (Value.int .i64 0) := RZ.c3
    have q4 : _ = some (Value.int .i64 0) := RZ.c4
    refine bodyPost_ret (v := .tuple #[.agg #[.int .i64 0, .slice none 0 0, .slice none 0 0, .int .i64 0, .int .i64 0], .int .i64 1]) ?_ rfl ⟨ext_setRow X3.out (Nat.le_refl _) _, .inl ⟨1, HQ.out, (by decide), rfl⟩⟩
    simp [results, Tryz.results28, go_sem, q0, q1, q2, q3, q4]
  have HPT := Lib.hid (pt_yes HP.out HT.out hany)
  clear hany
  have HEK2 := HEK.out
  rw [HP.out] at HEK2
  obtain ⟨d2, _, b2, o2, rfl, hbl2, pa, pm, pk, pa2, pm2, pk2, f0, f1, f2, rp, _⟩ := HEK2 0 p rfl
  obtain ⟨d3, _, b3, o3, e4, _, qa, qm, qk, qa2, qm2, qk2, g0, g1, g2, rq, _⟩ := HEK2 1 q rfl
  injection e4 with e4
  injection e4 with e5 e6
  subst e5 e6
  obtain ⟨d4, _, b4, o4, e4, _, sa, sm, sk, sa2, sm2, sk2, h0, h1, h2, rs, _⟩ := HEK2 2 r rfl
  injection e4 with e4
  injection e4 with e5 e6
  subst e5 e6
  simp only [Nat.zero_mul, Nat.add_zero, Nat.one_mul] at f1 g1 h1
  have CP := Lib.hid (show ∀ W, Ext w2 W → W.cell? ⟨b2, o2 + 1, none⟩ = some (.slice pa pm pk) ∧ W.cell? ⟨b2, o2 + 3 + 1, none⟩ = some (.slice qa qm qk) ∧ W.cell? ⟨b2, o2 + 2 * 3 + 1, none⟩ = some (.slice sa sm sk) from fun W e => ⟨(e.cell (p := ⟨b2, o2 + 1, none⟩) hbl2).trans f1, (e.cell (p := ⟨b2, o2 + 3 + 1, none⟩) hbl2).trans g1, (e.cell (p := ⟨b2, o2 + 2 * 3 + 1, none⟩) hbl2).trans h1⟩)
  have RP := Lib.hid rp
  have RQ := Lib.hid rq
  have RS := Lib.hid rs
  have HPL := Lib.hid (HFW.out p (by rw [HP.out]; simp))
  clear HEK2 f0 f1 f2 g0 g1 g2 h0 h1 h2 rp rq rs
  obtain ⟨u1, _, _⟩ := CP.out w3 E3.out
  go_wp2_with fail
  clear u1
  refine (parseq_any true w3 (RP.out.ext E3.out) (Nat.le_trans HPL.out (by omega))).mono ?_
  rintro e w4 ⟨b4, h⟩
  have X4 := Lib.hid (X3.out.tr b4)
  have Z4 := Lib.hid (Z3.out.ext b4)
  have E4 := Lib.hid (E3.out.tr b4)
  clear b4
  rcases h with ⟨A, n, c, k, hE, hk, rfl⟩ | ⟨ts, A, n, c, hE, rfl, hr⟩
  · have HQ := Lib.hid (dec_parse HE.out HPT.out hE)
    have HK := Lib.hid hk
    have hkb : (k != 0) = true := by simpa using hk
    clear hE hk
    go_wp2_with (refine wpRow_store rfl 37 _ _ rfl rfl w.heap.size (seRow 0 (.slice none 0 0) (.slice none 0 0) 0 0) rfl rfl 37 #[.int .i64 0, .slice none 0 0, .slice none 0 0, .int .i64 0, .int .i64 0] Z4.out info_se rfl (seRow_one _ _ _ rfl rfl) ?_)
    have RZ : SeAt (w4.setRow w.heap.size (seRow 0 (.slice none 0 0) (.slice none 0 0) 0 0)) w.heap.size seZ (.slice none 0 0) (.slice none 0 0) := row_at Z4.out
    have q0 : _ = some (Value.int .i64 0) := RZ.c0
    have q1 := RZ.c1
    have q2 := RZ.c2
    have q3 : _ = some (Value.int .i64 0) := RZ.c3
    have q4 : _ = some (Value.int .i64 0) := RZ.c4
    refine bodyPost_ret (v := .tuple #[.agg #[.int .i64 0, .slice none 0 0, .slice none 0 0, .int .i64 0, .int .i64 0], .int .i64 k]) ?_ rfl ⟨ext_setRow X4.out (Nat.le_refl _) _, .inl ⟨k, HQ.out, HK.out, rfl⟩⟩
    simp [results, Tryz.results28, go_sem, q0, q1, q2, q3, q4]
  have HTS := Lib.hid hE
  have HRR := Lib.hid hr
  have HFEW := Lib.hid (parX_few hE)
  clear hE hr
  go_wp2_with fail
  refine (read_any w4 HRR.out HFEW.out).mono ?_
  rintro e w5 ⟨b5, h⟩
  have X5 := Lib.hid (X4.out.tr b5)
  have Z5 := Lib.hid (Z4.out.ext b5)
  have E5 := Lib.hid (E4.out.tr b5)
  clear b5
  rcases h with ⟨hn, rfl⟩ | ⟨v, hs, A1, n1, c1, hv, rfl, hH⟩
  · have HQ := Lib.hid (dec_msg HE.out HPT.out HTS.out hn)
    clear hn
    obtain ⟨w6, hw6⟩ : ∃ w6, w6 = w5.alloc (.cells #[.int .i64 0, .slice none 0 0, .slice none 0 0, .int .i64 0, .int .i64 0] 37) := ⟨_, rfl⟩
    have x6 : Ext w5 w6 := by rw [hw6]; exact (Below.refl _ _).alloc (Nat.le_refl _) _
    have X6 := Lib.hid (X5.out.tr x6)
    have Z6 := Lib.hid (Z5.out.ext x6)
    clear x6
    unfold seRow
    go_upto_region 16 with fail
    rw [← hw6]
    clear hw6
    go_wp2_with (refine wpRow_store rfl 37 _ _ rfl rfl w.heap.size (seRow 0 (.slice none 0 0) (.slice none 0 0) 0 0) rfl rfl 37 #[.int .i64 0, .slice none 0 0, .slice none 0 0, .int .i64 0, .int .i64 0] Z6.out info_se rfl (seRow_one _ _ _ rfl rfl) ?_)
    have RZ : SeAt (w6.setRow w.heap.size (seRow 0 (.slice none 0 0) (.slice none 0 0) 0 0)) w.heap.size seZ (.slice none 0 0) (.slice none 0 0) := row_at Z6.out
    have q0 : _ = some (Value.int .i64 0) := RZ.c0
    have q1 := RZ.c1
    have q2 := RZ.c2
    have q3 : _ = some (Value.int .i64 0) := RZ.c3
    have q4 : _ = some (Value.int .i64 0) := RZ.c4
    refine bodyPost_ret (v := .tuple #[.agg #[.int .i64 0, .slice none 0 0, .slice none 0 0, .int .i64 0, .int .i64 0], .int .i64 1]) ?_ rfl ⟨ext_setRow X6.out (Nat.le_refl _) _, .inl ⟨1, HQ.out, (by decide), rfl⟩⟩
    simp [results, Tryz.results28, go_sem, q0, q1, q2, q3, q4]
  have HV := Lib.hid (dec_go HE.out HPT.out HTS.out hv)
  have HHR := Lib.hid hH
  clear hv hH
  obtain ⟨w6, hw6⟩ : ∃ w6, w6 = w5.alloc (.cells #[.int .i64 v, .slice A1 n1 c1, .slice none 0 0, .int .i64 0, .int .i64 0] 37) := ⟨_, rfl⟩
  have F6 := Lib.hid (show Ext w5 w6 by rw [hw6]; exact (Below.refl _ _).alloc (Nat.le_refl _) _)
  have S6 := Lib.hid (show SeAt w6 w5.heap.size ⟨v, [], [], 0, 0⟩ (.slice A1 n1 c1) (.slice none 0 0) by rw [hw6]; exact heap_alloc_new' w5 _)
  unfold seRow
  go_upto_region 17 with fail
  rw [← hw6]
  clear hw6
  obtain ⟨g, hg⟩ : ∃ g, w5.heap.size = g := ⟨_, rfl⟩
  have HGE := Lib.hid (show w5.heap.size ≤ g by omega)
  have HWG := Lib.hid (show w.heap.size < g from hg ▸ Z5.out.lt)
  rw [hg] at S6 ⊢
  clear hg
  have E6 := Lib.hid (E5.out.tr F6.out)
  obtain ⟨_, u2, _⟩ := CP.out w6 E6.out
  have y2 := S6.out.c2
  have yf2 := S6.out.frozen 2
  have gl := S6.out.lt
  obtain ⟨w7, hw7⟩ : ∃ w7, w6.setCell ⟨g, 2, none⟩ (.slice qa qm qk) = w7 := ⟨_, rfl⟩
  have F7 := Lib.hid (show Ext w5 w7 from hw7 ▸ ext_setE F6.out HGE.out)
  have S7 := Lib.hid (show SeAt w7 g ⟨v, [], [], 0, 0⟩ (.slice A1 n1 c1) (.slice qa qm qk) from hw7 ▸ S6.out.set2 _)
  have E7 := Lib.hid (E5.out.tr F7.out)
  obtain ⟨_, _, u3⟩ := CP.out w7 E7.out
  go_wp2_with fail
  clear hw7 u2 u3 y2 yf2 gl
  refine (decode_any w7 (RS.out.ext E7.out)).mono ?_
  rintro e w8 ⟨rfl, b8⟩
  unfold sgV
  have F8 := Lib.hid (F7.out.tr b8)
  have S8 := Lib.hid (S7.out.ext b8)
  clear b8
  have y3 : _ = some (Value.int .i64 0) := S8.out.c3
  have yf3 := S8.out.frozen 3
  have gl := S8.out.lt
  generalize hDE : dcE r.val = zE at *
  generalize hDS : dcS r.val = zS at *
  generalize hDK : dcK r.val = zK at *
  clear hDE hDS hDK
  obtain ⟨wa, hwa⟩ : ∃ wa, w8.setCell ⟨g, 3, none⟩ (.int .i64 zE) = wa := ⟨_, rfl⟩
  have Sa := Lib.hid (show SeAt wa g ⟨v, [], [], zE, 0⟩ (.slice A1 n1 c1) (.slice qa qm qk) from hwa ▸ S8.out.set3 zE)
  have Fa := Lib.hid (show Ext w5 wa from hwa ▸ ext_setE F8.out HGE.out)
  have y4 : _ = some (Value.int .i64 0) := Sa.out.c4
  have yf4 := Sa.out.frozen 4
  have gla := Sa.out.lt
  obtain ⟨w9, hw9⟩ : ∃ w9, wa.setCell ⟨g, 4, none⟩ (.int .i64 zS) = w9 := ⟨_, rfl⟩
  have S9 := Lib.hid (show SeAt w9 g ⟨v, [], [], zE, zS⟩ (.slice A1 n1 c1) (.slice qa qm qk) from hw9 ▸ Sa.out.set4 zS)
  have F9 := Lib.hid (show Ext w5 w9 from hw9 ▸ ext_setE Fa.out HGE.out)
  have X9 := Lib.hid (X5.out.tr F9.out)
  have Z9 := Lib.hid (Z5.out.ext F9.out)
  by_cases hds : zK = 0
  case neg =>
    have HQ := Lib.hid (HV.out.trans (if_pos hds))
    have HK := Lib.hid hds
    have hkb : (zK != 0) = true := by simpa using hds
    clear hds
    go_wp2_with (refine wpRow_store rfl 37 _ _ rfl rfl w.heap.size (seRow 0 (.slice none 0 0) (.slice none 0 0) 0 0) rfl rfl 37 #[.int .i64 0, .slice none 0 0, .slice none 0 0, .int .i64 0, .int .i64 0] Z9.out info_se rfl (seRow_one _ _ _ rfl rfl) ?_)
    have RZ : SeAt (w9.setRow w.heap.size (seRow 0 (.slice none 0 0) (.slice none 0 0) 0 0)) w.heap.size seZ (.slice none 0 0) (.slice none 0 0) := row_at Z9.out
    have q0 : _ = some (Value.int .i64 0) := RZ.c0
    have q1 := RZ.c1
    have q2 := RZ.c2
    have q3 : _ = some (Value.int .i64 0) := RZ.c3
    have q4 : _ = some (Value.int .i64 0) := RZ.c4
    refine bodyPost_ret (v := .tuple #[.agg #[.int .i64 0, .slice none 0 0, .slice none 0 0, .int .i64 0, .int .i64 0], .int .i64 zK]) ?_ rfl ⟨ext_setRow X9.out (Nat.le_refl _) _, .inl ⟨zK, HQ.out, HK.out, rfl⟩⟩
    simp [results, Tryz.results28, go_sem, q0, q1, q2, q3, q4]
  have HV2 := Lib.hid (HV.out.trans (if_neg (not_not_intro hds)))
  subst hds
  go_wp2_with (refine wpList_load_row rfl 37 _ rfl g rfl 37 (seRow v (.slice A1 n1 c1) (.slice qa qm qk) zE zS) (0, 0) _ S9.out Tryz.underlying37 rfl info_se ?_)
  refine (valid16P_any ⟨v, hs, q.val, zE, zS⟩ (.slice A1 n1 c1) (.slice qa qm qk) w9 ⟨HHR.out.ext F9.out, RQ.out.ext (E5.out.tr F9.out)⟩).mono ?_
  rintro e w10 ⟨rfl, b10⟩
  have F10 := Lib.hid (F9.out.tr b10)
  have S10 := Lib.hid (S9.out.ext b10)
  have X10 := Lib.hid (X9.out.tr b10)
  have Z10 := Lib.hid (Z9.out.ext b10)
  clear b10 y3 yf3 gl y4 yf4 gla hwa hw9
  by_cases hvd : vdS ⟨v, hs, q.val, zE, zS⟩ = 0
  case neg =>
    have HQ := Lib.hid (HV2.out.trans (if_pos hvd))
    have HK := Lib.hid hvd
    generalize vdS ⟨v, hs, q.val, zE, zS⟩ = zV at *
    have hkb : (zV != 0) = true := by simpa using hvd
    clear hvd
    go_wp2_with (refine wpRow_store rfl 37 _ _ rfl rfl w.heap.size (seRow 0 (.slice none 0 0) (.slice none 0 0) 0 0) rfl rfl 37 #[.int .i64 0, .slice none 0 0, .slice none 0 0, .int .i64 0, .int .i64 0] Z10.out info_se rfl (seRow_one _ _ _ rfl rfl) ?_)
    have RZ : SeAt (w10.setRow w.heap.size (seRow 0 (.slice none 0 0) (.slice none 0 0) 0 0)) w.heap.size seZ (.slice none 0 0) (.slice none 0 0) := row_at Z10.out
    have q0 : _ = some (Value.int .i64 0) := RZ.c0
    have q1 := RZ.c1
    have q2 := RZ.c2
    have q3 : _ = some (Value.int .i64 0) := RZ.c3
    have q4 : _ = some (Value.int .i64 0) := RZ.c4
    refine bodyPost_ret (v := .tuple #[.agg #[.int .i64 0, .slice none 0 0, .slice none 0 0, .int .i64 0, .int .i64 0], .int .i64 zV]) ?_ rfl ⟨ext_setRow X10.out (Nat.le_refl _) _, .inl ⟨zV, HQ.out, HK.out, rfl⟩⟩
    simp [results, Tryz.results28, go_sem, q0, q1, q2, q3, q4]
  have HQ := Lib.hid (HV2.out.trans (if_neg (not_not_intro hvd)))
  have HCK := Lib.hid (ckS_ok (vdS_ok hvd).1)
  rw [hvd]
  clear hvd
  go_wp2_with (first | (refine wpList_load_row rfl 37 _ rfl g rfl 37 (seRow v (.slice A1 n1 c1) (.slice qa qm qk) zE zS) (0, 0) _ S10.out Tryz.underlying37 rfl info_se ?_) | (refine wpRow_store rfl 37 _ _ rfl rfl w.heap.size (seRow v (.slice A1 n1 c1) (.slice qa qm qk) zE zS) rfl rfl 37 #[.int .i64 0, .slice none 0 0, .slice none 0 0, .int .i64 0, .int .i64 0] Z10.out info_se rfl (seRow_one _ _ _ rfl rfl) ?_))
  have RZ : SeAt (w10.setRow w.heap.size (seRow v (.slice A1 n1 c1) (.slice qa qm qk) zE zS)) w.heap.size ⟨v, [], [], zE, zS⟩ (.slice A1 n1 c1) (.slice qa qm qk) := row_at Z10.out
  have q0 : _ = some (Value.int .i64 v) := RZ.c0
  have q1 := RZ.c1
  have q2 := RZ.c2
  have q3 : _ = some (Value.int .i64 zE) := RZ.c3
  have q4 : _ = some (Value.int .i64 zS) := RZ.c4
  refine bodyPost_ret (v := .tuple #[seV ⟨v, hs, q.val, zE, zS⟩ (.slice A1 n1 c1) (.slice qa qm qk), .int .i64 0]) ?_ rfl ⟨ext_setRow X10.out (Nat.le_refl _) _, .inr ⟨_, _, _, HQ.out, rfl, ⟨Z10.out.hs (HHR.out.ext F10.out) (fun x hx => by have := (HCK.out.2.2.2 x hx).1; omega) _, Z10.out.rd (RQ.out.ext (E5.out.tr F10.out)) _⟩⟩⟩
  simp [results, Tryz.results28, go_sem, seV, q0, q1, q2, q3, q4]
end Go.Proofs.YthbpdhanljpigaaGreatDoor
namespace Go.Proofs.YthbpdhanljpigaaGreatDoor
open Go.RowKit
set_option linter.unusedVariables false
set_option maxRecDepth 100000
theorem opn_okN {l : List UInt8} {n : Int} {ks : List Nd} (h : opnX l = .ok (n, ks)) : ∃ d, okNs d ks := by
  unfold opnX at h
  split at h
  · cases h
  · rename_i y hy
    split at h
    · cases h
    · simp only [Except.ok.injEq, Prod.mk.injEq] at h
      obtain ⟨_, rfl⟩ := h
      obtain ⟨_, d, _, h⟩ := okx_of (parX_ok hy).1 (List.mem_singleton.2 rfl)
      exact ⟨d, h⟩
  · cases h
theorem SeAt.cell_k {w : World} {g j : Nat} {s : SE} {a1 a2 : Option Addr} {n1 c1 n2 c2 : Nat} {u : Value} (h : SeAt w g s (.slice a1 n1 c1) (.slice a2 n2 c2)) (hu : w.cell? ⟨g, j, none⟩ = some u) : (∃ z, u = .int .i64 z) ∨ ∃ a n c, u = .slice a n c := by
  rw [cell_of_row w g j _ _ _ h] at hu
  match j, hu with
  | 0, hu => exact .inl ⟨_, (Option.some.inj hu).symm⟩
  | 1, hu => exact .inr ⟨_, _, _, (Option.some.inj hu).symm⟩
  | 2, hu => exact .inr ⟨_, _, _, (Option.some.inj hu).symm⟩
  | 3, hu => exact .inl ⟨_, (Option.some.inj hu).symm⟩
  | 4, hu => exact .inl ⟨_, (Option.some.inj hu).symm⟩
  | j + 5, hu => simp at hu
theorem SeAt.rdc {w : World} {g : Nat} {s : SE} {a1 a2 : Option Addr} {n1 c1 n2 c2 : Nat} {v : Value} {l : List UInt8} (Z : SeAt w g s (.slice a1 n1 c1) (.slice a2 n2 c2)) (h : Rd w v (bvs l)) (i : Nat) (x : Value) : Rd (w.setCell ⟨g, i, none⟩ x) v (bvs l) := by
  obtain ⟨A, n, c, rfl, h1, h2, h3, h4⟩ := h.bytes
  refine ⟨A, n, c, rfl, by rw [bvs_length]; exact h1, h2, h3, fun h0 => ?_⟩
  obtain ⟨b, o, rfl, hb, hc⟩ := h4 h0
  have hne : b ≠ g := fun e => by
    subst e
    rcases Z.cell_k (hc 0 h0) with ⟨_, h⟩ | ⟨_, _, _, h⟩ <;> cases h
  refine ⟨b, o, rfl, fun j u hu => ?_⟩
  obtain ⟨hj, rfl⟩ := bvs_get hu
  have e : (w.setCell ⟨g, i, none⟩ x).heap[b]? = w.heap[b]? := setCell_block hne
  have e2 : (w.setCell ⟨g, i, none⟩ x).cell? ⟨b, o + j, none⟩ = w.cell? ⟨b, o + j, none⟩ := by simp only [World.cell?, e]
  rw [e2, hc j (by rw [h1]; exact hj), byteI_get hj]
set_option maxHeartbeats 8000000 in
theorem refdecode16_any {a : Value} {l : List UInt8} (w : World) (ha : Rd w a (bvs l)) (hl : l.length ≤ 140737488355328) (G : GTab w 0) : Calls Tryz.prog 29 #[a] w (DecQ w (decX l)) := by
  obtain ⟨A0, n0, c0, rfl, hn0, _⟩ := ha.bytes
  subst hn0
  obtain ⟨wz, hwz⟩ : ∃ wz, wz = w.alloc (.cells #[.int .i64 0, .slice none 0 0, .slice none 0 0, .int .i64 0, .int .i64 0] 37) := ⟨_, rfl⟩
  have xz := Lib.hid (show Ext w wz by rw [hwz]; exact (Below.refl _ _).alloc (Nat.le_refl _) _)
  have Z := Lib.hid (show SeAt wz w.heap.size seZ (.slice none 0 0) (.slice none 0 0) by rw [hwz]; exact heap_alloc_new' w _)
  have HO := Lib.hid (refopen_any wz (ha.ext xz.out) hl (G.ext xz.out))
  clear ha hl G
  go_enter Tryz.func29, Tryz.ntmps29
  go_wp2_with fail
  rw [← hwz]
  clear hwz
  refine HO.out.mono ?_
  rintro e w2 ⟨b2, h⟩
  have X2 := Lib.hid (xz.out.tr b2)
  have Z2 := Lib.hid (Z.out.ext b2)
  clear b2
  rcases h with ⟨z, A, n, c, k, hE, hk, rfl⟩ | ⟨z, ks, A, n, c, hE, rfl, hr⟩
  · have HE := Lib.hid (dec_open hE)
    have HK := Lib.hid hk
    have hkb : (k != 0) = true := by simpa using hk
    clear hE hk
    go_wp2_with (refine wpRow_store rfl 37 _ _ rfl rfl w.heap.size (seRow 0 (.slice none 0 0) (.slice none 0 0) 0 0) rfl rfl 37 #[.int .i64 0, .slice none 0 0, .slice none 0 0, .int .i64 0, .int .i64 0] Z2.out info_se rfl (seRow_one _ _ _ rfl rfl) ?_)
    have RZ : SeAt (w2.setRow w.heap.size (seRow 0 (.slice none 0 0) (.slice none 0 0) 0 0)) w.heap.size seZ (.slice none 0 0) (.slice none 0 0) := row_at Z2.out
    have q0 : _ = some (Value.int .i64 0) := RZ.c0
    have q1 := RZ.c1
    have q2 := RZ.c2
    have q3 : _ = some (Value.int .i64 0) := RZ.c3
    have q4 : _ = some (Value.int .i64 0) := RZ.c4
    refine bodyPost_ret (v := .tuple #[.agg #[.int .i64 0, .slice none 0 0, .slice none 0 0, .int .i64 0, .int .i64 0], .int .i64 k]) ?_ rfl ⟨ext_setRow X2.out (Nat.le_refl _) _, .inl ⟨k, HE.out, HK.out, rfl⟩⟩
    simp [results, Tryz.results29, go_sem, q0, q1, q2, q3, q4]
  have HE := Lib.hid hE
  clear hE
  by_cases hz : z = 18
  case neg =>
    have hzb : (z != 18) = true := by simpa using hz
    have HQ := Lib.hid (dec_kind HE.out hz)
    clear hz hr
    go_wp2_with (refine wpRow_store rfl 37 _ _ rfl rfl w.heap.size (seRow 0 (.slice none 0 0) (.slice none 0 0) 0 0) rfl rfl 37 #[.int .i64 0, .slice none 0 0, .slice none 0 0, .int .i64 0, .int .i64 0] Z2.out info_se rfl (seRow_one _ _ _ rfl rfl) ?_)
    have RZ : SeAt (w2.setRow w.heap.size (seRow 0 (.slice none 0 0) (.slice none 0 0) 0 0)) w.heap.size seZ (.slice none 0 0) (.slice none 0 0) := row_at Z2.out
    have q0 : _ = some (Value.int .i64 0) := RZ.c0
    have q1 := RZ.c1
    have q2 := RZ.c2
    have q3 : _ = some (Value.int .i64 0) := RZ.c3
    have q4 : _ = some (Value.int .i64 0) := RZ.c4
    refine bodyPost_ret (v := .tuple #[.agg #[.int .i64 0, .slice none 0 0, .slice none 0 0, .int .i64 0, .int .i64 0], .int .i64 4]) ?_ rfl ⟨ext_setRow X2.out (Nat.le_refl _) _, .inl ⟨4, HQ.out, (by decide), rfl⟩⟩
    simp [results, Tryz.results29, go_sem, q0, q1, q2, q3, q4]
  subst hz
  obtain ⟨A', n', c', e', hn, hnc, hcm, hel⟩ := hr.open_
  injection e' with e1' e2' e3'
  subst e1' e2' e3'
  have HN := Lib.hid hn
  have HEL := Lib.hid hel
  unfold maxLen at hcm
  clear hr hel hn
  by_cases h1 : ks.length = 1
  case neg =>
    have h1b : ((n : Int) != 1) = true := by simp; have := HN.out; omega
    have HQ := Lib.hid (dec_part HE.out (pt_len h1))
    clear h1
    go_wp2_with (refine wpRow_store rfl 37 _ _ rfl rfl w.heap.size (seRow 0 (.slice none 0 0) (.slice none 0 0) 0 0) rfl rfl 37 #[.int .i64 0, .slice none 0 0, .slice none 0 0, .int .i64 0, .int .i64 0] Z2.out info_se rfl (seRow_one _ _ _ rfl rfl) ?_)
    have RZ : SeAt (w2.setRow w.heap.size (seRow 0 (.slice none 0 0) (.slice none 0 0) 0 0)) w.heap.size seZ (.slice none 0 0) (.slice none 0 0) := row_at Z2.out
    have q0 : _ = some (Value.int .i64 0) := RZ.c0
    have q1 := RZ.c1
    have q2 := RZ.c2
    have q3 : _ = some (Value.int .i64 0) := RZ.c3
    have q4 : _ = some (Value.int .i64 0) := RZ.c4
    refine bodyPost_ret (v := .tuple #[.agg #[.int .i64 0, .slice none 0 0, .slice none 0 0, .int .i64 0, .int .i64 0], .int .i64 1]) ?_ rfl ⟨ext_setRow X2.out (Nat.le_refl _) _, .inl ⟨1, HQ.out, (by decide), rfl⟩⟩
    simp [results, Tryz.results29, go_sem, q0, q1, q2, q3, q4]
  obtain ⟨x, rfl⟩ := one_of h1
  obtain rfl : n = 1 := HN.out
  obtain ⟨d1, ed1, bb, o, rfl, hbl, a1, m1, k1, a2, m2, k2, e0, e1, e2, r1, r2⟩ := HEL.out 0 x rfl
  simp only [Nat.zero_mul, Nat.add_zero] at e0 e1 e2
  have CX := Lib.hid (show ∀ W, Ext w2 W → W.cell? ⟨bb, o, none⟩ = some (.int .i64 x.tag) ∧ W.cell? ⟨bb, o + 1, none⟩ = some (.slice a1 m1 k1) ∧ W.cell? ⟨bb, o + 2, none⟩ = some (.slice a2 m2 k2) from fun W e => ⟨(e.cell (p := ⟨bb, o, none⟩) hbl).trans e0, (e.cell (p := ⟨bb, o + 1, none⟩) hbl).trans e1, (e.cell (p := ⟨bb, o + 2, none⟩) hbl).trans e2⟩)
  have HFW := Lib.hid (opn_few HE.out x (by simp))
  have HOX := Lib.hid (show okx x from by obtain ⟨d, h⟩ := opn_okN HE.out; exact (okx_of h (List.mem_singleton.2 rfl)).1)
  have HOK := Lib.hid (show ∀ y ∈ x.kids, okx y from fun y hy => by obtain ⟨d, h⟩ := opn_okN HE.out; exact okx_kid h (List.mem_singleton.2 rfl) hy)
  have R1 := Lib.hid r1
  have R2 := Lib.hid r2
  clear h1 r1 ed1 e0 e1 e2 r2
  obtain ⟨c0, c1, c2⟩ := CX.out w2 (Below.refl _ _)
  go_wp2_with fail
  clear c0 c1 c2
  refine (cons13_nd 48 3 w2 R1.out R2.out).mono ?_
  rintro e w3 ⟨rfl, b3⟩
  have X3 := Lib.hid (X2.out.tr b3)
  have Z3 := Lib.hid (Z2.out.ext b3)
  have E3 := Lib.hid (b3)
  obtain ⟨P, hP⟩ : ∃ P, consX x 48 3 = P := ⟨_, rfl⟩
  have HP0 := Lib.hid hP
  rw [hP]
  clear hP b3
  cases P
  case false =>
    have HQ := Lib.hid (dec_part HE.out (pt_cons HOX.out HP0.out))
    go_wp2_with (refine wpRow_store rfl 37 _ _ rfl rfl w.heap.size (seRow 0 (.slice none 0 0) (.slice none 0 0) 0 0) rfl rfl 37 #[.int .i64 0, .slice none 0 0, .slice none 0 0, .int .i64 0, .int .i64 0] Z3.out info_se rfl (seRow_one _ _ _ rfl rfl) ?_)
    have RZ : SeAt (w3.setRow w.heap.size (seRow 0 (.slice none 0 0) (.slice none 0 0) 0 0)) w.heap.size seZ (.slice none 0 0) (.slice none 0 0) := row_at Z3.out
    have q0 : _ = some (Value.int .i64 0) := RZ.c0
    have q1 := RZ.c1
    have q2 := RZ.c2
    have q3 : _ = some (Value.int .i64 0) := RZ.c3
    have q4 : _ = some (Value.int .i64 0) := RZ.c4
    refine bodyPost_ret (v := .tuple #[.agg #[.int .i64 0, .slice none 0 0, .slice none 0 0, .int .i64 0, .int .i64 0], .int .i64 1]) ?_ rfl ⟨ext_setRow X3.out (Nat.le_refl _) _, .inl ⟨1, HQ.out, (by decide), rfl⟩⟩
    simp [results, Tryz.results29, go_sem, q0, q1, q2, q3, q4]
  have HXC := Lib.hid ((consX_go HOX.out).1 HP0.out)
  obtain ⟨p, q, r, hpqr⟩ := three_of (show x.kids.length = 3 from by rcases HXC.out.2 with h | h <;> omega)
  have HP := Lib.hid hpqr
  have HPT := Lib.hid (pt_go hpqr HXC.out.1 (HOK.out p (by rw [hpqr]; simp)) (HOK.out q (by rw [hpqr]; simp)) (HOK.out r (by rw [hpqr]; simp)))
  have HEK2 := R2.out
  rw [hpqr] at HEK2
  obtain ⟨A', n', c', e', hn', hnc', hcm', hel'⟩ := HEK2.open_
  injection e' with e1' e2' e3'
  subst e1' e2' e3'
  obtain rfl : m2 = 3 := hn'
  obtain ⟨d2, _, b2, o2, rfl, hbl2, pa, pm, pk, pa2, pm2, pk2, f0, f1, f2, rp, rpk⟩ := hel' 0 p rfl
  obtain ⟨d3, _, b3, o3, e4, _, qa, qm, qk, qa2, qm2, qk2, g0, g1, g2, rq, rqk⟩ := hel' 1 q rfl
  injection e4 with e4
  injection e4 with e5 e6
  subst e5 e6
  obtain ⟨d4, _, b4, o4, e4, _, sa, sm, sk, sa2, sm2, sk2, h0, h1, h2, rs, rsk⟩ := hel' 2 r rfl
  injection e4 with e4
  injection e4 with e5 e6
  subst e5 e6
  simp only [Nat.zero_mul, Nat.add_zero, Nat.one_mul] at f0 f1 f2 g0 g1 g2 h0 h1 h2
  have CP := Lib.hid (show ∀ W, Ext w2 W → W.cell? ⟨b2, o2, none⟩ = some (.int .i64 p.tag) ∧ W.cell? ⟨b2, o2 + 1, none⟩ = some (.slice pa pm pk) ∧ W.cell? ⟨b2, o2 + 2, none⟩ = some (.slice pa2 pm2 pk2) from fun W e => ⟨(e.cell (p := ⟨b2, o2, none⟩) hbl2).trans f0, (e.cell (p := ⟨b2, o2 + 1, none⟩) hbl2).trans f1, (e.cell (p := ⟨b2, o2 + 2, none⟩) hbl2).trans f2⟩)
  have CQ := Lib.hid (show ∀ W, Ext w2 W → W.cell? ⟨b2, o2 + 3, none⟩ = some (.int .i64 q.tag) ∧ W.cell? ⟨b2, o2 + 3 + 1, none⟩ = some (.slice qa qm qk) ∧ W.cell? ⟨b2, o2 + 3 + 2, none⟩ = some (.slice qa2 qm2 qk2) from fun W e => ⟨(e.cell (p := ⟨b2, o2 + 3, none⟩) hbl2).trans g0, (e.cell (p := ⟨b2, o2 + 3 + 1, none⟩) hbl2).trans g1, (e.cell (p := ⟨b2, o2 + 3 + 2, none⟩) hbl2).trans g2⟩)
  have CR := Lib.hid (show ∀ W, Ext w2 W → W.cell? ⟨b2, o2 + 2 * 3, none⟩ = some (.int .i64 r.tag) ∧ W.cell? ⟨b2, o2 + 2 * 3 + 1, none⟩ = some (.slice sa sm sk) ∧ W.cell? ⟨b2, o2 + 2 * 3 + 2, none⟩ = some (.slice sa2 sm2 sk2) from fun W e => ⟨(e.cell (p := ⟨b2, o2 + 2 * 3, none⟩) hbl2).trans h0, (e.cell (p := ⟨b2, o2 + 2 * 3 + 1, none⟩) hbl2).trans h1, (e.cell (p := ⟨b2, o2 + 2 * 3 + 2, none⟩) hbl2).trans h2⟩)
  have RP := Lib.hid rp
  have RQ := Lib.hid rq
  have RS := Lib.hid rs
  have RPK := Lib.hid rpk
  have RQK := Lib.hid rqk
  have RSK := Lib.hid rsk
  have HQL := Lib.hid (HFW.out q (by rw [HP.out]; simp))
  clear HEK2 hel' f0 f1 f2 g0 g1 g2 h0 h1 h2 rp rq rs rpk rqk rsk hpqr
  obtain ⟨_, _, c2⟩ := CX.out w3 E3.out
  obtain ⟨u0, u1, u2⟩ := CP.out w3 E3.out
  go_wp2_with fail
  clear c2 u0 u1 u2
  refine (prim13_nd 4 (-1) w3 (RP.out.ext E3.out) (RPK.out.ext E3.out)).mono ?_
  rintro e wa ⟨rfl, ba⟩
  have Xa := Lib.hid (X3.out.tr ba)
  have Za := Lib.hid (Z3.out.ext ba)
  have Ea := Lib.hid (E3.out.tr ba)
  obtain ⟨P, hP⟩ : ∃ P, primX p 4 (-1) = P := ⟨_, rfl⟩
  have HP1 := Lib.hid hP
  rw [hP]
  clear hP ba
  cases P
  case false =>
    have HQ := Lib.hid (dec_part HE.out (HPT.out.trans (if_neg (by rw [HP1.out]; simp))))
    go_wp2_with (refine wpRow_store rfl 37 _ _ rfl rfl w.heap.size (seRow 0 (.slice none 0 0) (.slice none 0 0) 0 0) rfl rfl 37 #[.int .i64 0, .slice none 0 0, .slice none 0 0, .int .i64 0, .int .i64 0] Za.out info_se rfl (seRow_one _ _ _ rfl rfl) ?_)
    have RZ : SeAt (wa.setRow w.heap.size (seRow 0 (.slice none 0 0) (.slice none 0 0) 0 0)) w.heap.size seZ (.slice none 0 0) (.slice none 0 0) := row_at Za.out
    have q0 : _ = some (Value.int .i64 0) := RZ.c0
    have q1 := RZ.c1
    have q2 := RZ.c2
    have q3 : _ = some (Value.int .i64 0) := RZ.c3
    have q4 : _ = some (Value.int .i64 0) := RZ.c4
    refine bodyPost_ret (v := .tuple #[.agg #[.int .i64 0, .slice none 0 0, .slice none 0 0, .int .i64 0, .int .i64 0], .int .i64 1]) ?_ rfl ⟨ext_setRow Xa.out (Nat.le_refl _) _, .inl ⟨1, HQ.out, (by decide), rfl⟩⟩
    simp [results, Tryz.results29, go_sem, q0, q1, q2, q3, q4]
  obtain ⟨u0, u1, u2⟩ := CQ.out wa Ea.out
  go_wp2_with fail
  clear u0 u1 u2
  refine (prim13_nd 4 (-1) wa (RQ.out.ext Ea.out) (RQK.out.ext Ea.out)).mono ?_
  rintro e wb ⟨rfl, bb2⟩
  have Xb := Lib.hid (Xa.out.tr bb2)
  have Zb := Lib.hid (Za.out.ext bb2)
  have Eb := Lib.hid (Ea.out.tr bb2)
  obtain ⟨P, hP⟩ : ∃ P, primX q 4 (-1) = P := ⟨_, rfl⟩
  have HP2 := Lib.hid hP
  rw [hP]
  clear hP bb2
  cases P
  case false =>
    have HQ := Lib.hid (dec_part HE.out (HPT.out.trans (if_neg (by rw [HP2.out]; simp))))
    go_wp2_with (refine wpRow_store rfl 37 _ _ rfl rfl w.heap.size (seRow 0 (.slice none 0 0) (.slice none 0 0) 0 0) rfl rfl 37 #[.int .i64 0, .slice none 0 0, .slice none 0 0, .int .i64 0, .int .i64 0] Zb.out info_se rfl (seRow_one _ _ _ rfl rfl) ?_)
    have RZ : SeAt (wb.setRow w.heap.size (seRow 0 (.slice none 0 0) (.slice none 0 0) 0 0)) w.heap.size seZ (.slice none 0 0) (.slice none 0 0) := row_at Zb.out
    have q0 : _ = some (Value.int .i64 0) := RZ.c0
    have q1 := RZ.c1
    have q2 := RZ.c2
    have q3 : _ = some (Value.int .i64 0) := RZ.c3
    have q4 : _ = some (Value.int .i64 0) := RZ.c4
    refine bodyPost_ret (v := .tuple #[.agg #[.int .i64 0, .slice none 0 0, .slice none 0 0, .int .i64 0, .int .i64 0], .int .i64 1]) ?_ rfl ⟨ext_setRow Xb.out (Nat.le_refl _) _, .inl ⟨1, HQ.out, (by decide), rfl⟩⟩
    simp [results, Tryz.results29, go_sem, q0, q1, q2, q3, q4]
  obtain ⟨u0, u1, u2⟩ := CR.out wb Eb.out
  go_wp2_with fail
  clear u0 u1 u2
  refine (prim13_nd 4 (-1) wb (RS.out.ext Eb.out) (RSK.out.ext Eb.out)).mono ?_
  rintro e wc ⟨rfl, bc⟩
  have Xc := Lib.hid (Xb.out.tr bc)
  have Zc := Lib.hid (Zb.out.ext bc)
  have Ec := Lib.hid (Eb.out.tr bc)
  obtain ⟨P, hP⟩ : ∃ P, primX r 4 (-1) = P := ⟨_, rfl⟩
  have HP3 := Lib.hid hP
  rw [hP]
  clear hP bc
  cases P
  case false =>
    have HQ := Lib.hid (dec_part HE.out (HPT.out.trans (if_neg (by rw [HP3.out]; simp))))
    go_wp2_with (refine wpRow_store rfl 37 _ _ rfl rfl w.heap.size (seRow 0 (.slice none 0 0) (.slice none 0 0) 0 0) rfl rfl 37 #[.int .i64 0, .slice none 0 0, .slice none 0 0, .int .i64 0, .int .i64 0] Zc.out info_se rfl (seRow_one _ _ _ rfl rfl) ?_)
    have RZ : SeAt (wc.setRow w.heap.size (seRow 0 (.slice none 0 0) (.slice none 0 0) 0 0)) w.heap.size seZ (.slice none 0 0) (.slice none 0 0) := row_at Zc.out
    have q0 : _ = some (Value.int .i64 0) := RZ.c0
    have q1 := RZ.c1
    have q2 := RZ.c2
    have q3 : _ = some (Value.int .i64 0) := RZ.c3
    have q4 : _ = some (Value.int .i64 0) := RZ.c4
    refine bodyPost_ret (v := .tuple #[.agg #[.int .i64 0, .slice none 0 0, .slice none 0 0, .int .i64 0, .int .i64 0], .int .i64 1]) ?_ rfl ⟨ext_setRow Xc.out (Nat.le_refl _) _, .inl ⟨1, HQ.out, (by decide), rfl⟩⟩
    simp [results, Tryz.results29, go_sem, q0, q1, q2, q3, q4]
  have HPY := Lib.hid (HPT.out.trans (if_pos (by rw [HP1.out, HP2.out, HP3.out]; rfl)))
  obtain ⟨_, u1, _⟩ := CP.out wc Ec.out
  go_wp2_with fail
  clear u1
  refine (refmsg_any wc (RP.out.ext Ec.out)).mono ?_
  rintro e w5 ⟨b5, h⟩
  have X5 := Lib.hid (Xc.out.tr b5)
  have Z5 := Lib.hid (Zc.out.ext b5)
  have E5 := Lib.hid (Ec.out.tr b5)
  clear b5
  rcases h with ⟨k, hE, hk, rfl⟩ | ⟨v, hs, A1, n1, c1, hE, rfl, hH⟩
  · have HQ := Lib.hid (dec_mg HE.out HPY.out hE)
    have HK := Lib.hid hk
    have hkb : (k != 0) = true := by simpa using hk
    clear hE hk
    obtain ⟨w6, hw6⟩ : ∃ w6, w6 = w5.alloc (.cells #[.int .i64 0, .slice none 0 0, .slice none 0 0, .int .i64 0, .int .i64 0] 37) := ⟨_, rfl⟩
    have x6 : Ext w5 w6 := by rw [hw6]; exact (Below.refl _ _).alloc (Nat.le_refl _) _
    have X6 := Lib.hid (X5.out.tr x6)
    have Z6 := Lib.hid (Z5.out.ext x6)
    clear x6
    unfold seRow
    go_upto_region 13 with fail
    rw [← hw6]
    clear hw6
    go_wp2_with (refine wpRow_store rfl 37 _ _ rfl rfl w.heap.size (seRow 0 (.slice none 0 0) (.slice none 0 0) 0 0) rfl rfl 37 #[.int .i64 0, .slice none 0 0, .slice none 0 0, .int .i64 0, .int .i64 0] Z6.out info_se rfl (seRow_one _ _ _ rfl rfl) ?_)
    have RZ : SeAt (w6.setRow w.heap.size (seRow 0 (.slice none 0 0) (.slice none 0 0) 0 0)) w.heap.size seZ (.slice none 0 0) (.slice none 0 0) := row_at Z6.out
    have q0 : _ = some (Value.int .i64 0) := RZ.c0
    have q1 := RZ.c1
    have q2 := RZ.c2
    have q3 : _ = some (Value.int .i64 0) := RZ.c3
    have q4 : _ = some (Value.int .i64 0) := RZ.c4
    refine bodyPost_ret (v := .tuple #[.agg #[.int .i64 0, .slice none 0 0, .slice none 0 0, .int .i64 0, .int .i64 0], .int .i64 k]) ?_ rfl ⟨ext_setRow X6.out (Nat.le_refl _) _, .inl ⟨k, HQ.out, HK.out, rfl⟩⟩
    simp [results, Tryz.results29, go_sem, q0, q1, q2, q3, q4]
  have HV := Lib.hid (dec_mgo HE.out HPY.out hE)
  have HHR := Lib.hid hH
  clear hE hH
  obtain ⟨w6, hw6⟩ : ∃ w6, w6 = w5.alloc (.cells #[.int .i64 v, .slice A1 n1 c1, .slice none 0 0, .int .i64 0, .int .i64 0] 37) := ⟨_, rfl⟩
  have F6 := Lib.hid (show Ext w5 w6 by rw [hw6]; exact (Below.refl _ _).alloc (Nat.le_refl _) _)
  have S6 := Lib.hid (show SeAt w6 w5.heap.size ⟨v, [], [], 0, 0⟩ (.slice A1 n1 c1) (.slice none 0 0) by rw [hw6]; exact heap_alloc_new' w5 _)
  unfold seRow
  go_upto_region 14 with fail
  rw [← hw6]
  clear hw6
  obtain ⟨g, hg⟩ : ∃ g, w5.heap.size = g := ⟨_, rfl⟩
  have HGE := Lib.hid (show w5.heap.size ≤ g by omega)
  have HWG := Lib.hid (show w.heap.size < g from hg ▸ Z5.out.lt)
  rw [hg] at S6 ⊢
  clear hg
  have E6 := Lib.hid (E5.out.tr F6.out)
  have HG6 := Lib.hid S6.out.lt
  obtain ⟨_, u2, _⟩ := CQ.out w6 E6.out
  go_wp2_with (refine appR (w0 := w6) (Own.nil_ w6 w6.heap.size _) (RQ.out.ext E6.out) (Below.refl _ _) (show [].length + q.val.length ≤ 140737488355328 by simp; have := HQL.out; omega) (Nat.le_refl _) rfl rfl rfl rfl ?_; intro A8 n8 c8 w8 hn8 o8 b8 g8 hh8
               have y8 : SeAt w8 g ⟨v, [], [], 0, 0⟩ (.slice A1 n1 c1) (.slice none 0 0) := S6.out.ext b8
               have hy8 := y8.lt
               have y2 := y8.c2
               have yf2 := y8.frozen 2
               obtain ⟨w7, hw7⟩ : ∃ w7, w8.setCell ⟨g, 2, none⟩ (.slice A8 n8 c8) = w7 := ⟨_, rfl⟩
               have F7 := Lib.hid (show Ext w5 w7 from hw7 ▸ ext_setE (F6.out.tr b8) HGE.out)
               have S7 := Lib.hid (show SeAt w7 g ⟨v, [], [], 0, 0⟩ (.slice A1 n1 c1) (.slice A8 n8 c8) from hw7 ▸ y8.set2 _)
               have R7 := Lib.hid (show Rd w7 (.slice A8 n8 c8) (bvs q.val) by rw [← hw7]; exact y8.rdc o8.rd _ _)
               have E7 := Lib.hid (E5.out.tr F7.out)
               clear g8 hh8 o8
               obtain ⟨_, u3, _⟩ := CR.out w7 E7.out)
  clear hw7 u2 u3 y2 yf2 hy8 y8 b8
  refine (refdecode_any w7 (RS.out.ext E7.out)).mono ?_
  rintro e w9 ⟨rfl, b9⟩
  unfold sgV
  have F8 := Lib.hid (F7.out.tr b9)
  have S8 := Lib.hid (S7.out.ext b9)
  have R8 := Lib.hid (R7.out.ext b9)
  clear b9
  have y3 : _ = some (Value.int .i64 0) := S8.out.c3
  have yf3 := S8.out.frozen 3
  have gl := S8.out.lt
  generalize hDE : dcE r.val = zE at *
  generalize hDS : dcS r.val = zS at *
  generalize hDK : dcK r.val = zK at *
  clear hDE hDS hDK
  obtain ⟨wd, hwd⟩ : ∃ wd, w9.setCell ⟨g, 3, none⟩ (.int .i64 zE) = wd := ⟨_, rfl⟩
  have Sa := Lib.hid (show SeAt wd g ⟨v, [], [], zE, 0⟩ (.slice A1 n1 c1) (.slice A8 n8 c8) from hwd ▸ S8.out.set3 zE)
  have Fa := Lib.hid (show Ext w5 wd from hwd ▸ ext_setE F8.out HGE.out)
  have y4 : _ = some (Value.int .i64 0) := Sa.out.c4
  have yf4 := Sa.out.frozen 4
  have gla := Sa.out.lt
  obtain ⟨wf, hwf⟩ : ∃ wf, wd.setCell ⟨g, 4, none⟩ (.int .i64 zS) = wf := ⟨_, rfl⟩
  have S9 := Lib.hid (show SeAt wf g ⟨v, [], [], zE, zS⟩ (.slice A1 n1 c1) (.slice A8 n8 c8) from hwf ▸ Sa.out.set4 zS)
  have F9 := Lib.hid (show Ext w5 wf from hwf ▸ ext_setE Fa.out HGE.out)
  have R9 := Lib.hid (show Rd wf (.slice A8 n8 c8) (bvs q.val) from by rw [← hwf]; exact Sa.out.rdc (by rw [← hwd]; exact S8.out.rdc R8.out _ _) _ _)
  have X9 := Lib.hid (X5.out.tr F9.out)
  have Z9 := Lib.hid (Z5.out.ext F9.out)
  by_cases hds : zK = 0
  case neg =>
    have HQ := Lib.hid (HV.out.trans (if_pos hds))
    have HK := Lib.hid hds
    have hkb : (zK != 0) = true := by simpa using hds
    clear hds
    go_wp2_with (refine wpRow_store rfl 37 _ _ rfl rfl w.heap.size (seRow 0 (.slice none 0 0) (.slice none 0 0) 0 0) rfl rfl 37 #[.int .i64 0, .slice none 0 0, .slice none 0 0, .int .i64 0, .int .i64 0] Z9.out info_se rfl (seRow_one _ _ _ rfl rfl) ?_)
    have RZ : SeAt (wf.setRow w.heap.size (seRow 0 (.slice none 0 0) (.slice none 0 0) 0 0)) w.heap.size seZ (.slice none 0 0) (.slice none 0 0) := row_at Z9.out
    have q0 : _ = some (Value.int .i64 0) := RZ.c0
    have q1 := RZ.c1
    have q2 := RZ.c2
    have q3 : _ = some (Value.int .i64 0) := RZ.c3
    have q4 : _ = some (Value.int .i64 0) := RZ.c4
    refine bodyPost_ret (v := .tuple #[.agg #[.int .i64 0, .slice none 0 0, .slice none 0 0, .int .i64 0, .int .i64 0], .int .i64 zK]) ?_ rfl ⟨ext_setRow X9.out (Nat.le_refl _) _, .inl ⟨zK, HQ.out, HK.out, rfl⟩⟩
    simp [results, Tryz.results29, go_sem, q0, q1, q2, q3, q4]
  have HV2 := Lib.hid (HV.out.trans (if_neg (not_not_intro hds)))
  subst hds
  go_wp2_with (refine wpList_load_row rfl 37 _ rfl g rfl 37 (seRow v (.slice A1 n1 c1) (.slice A8 n8 c8) zE zS) (0, 0) _ S9.out Tryz.underlying37 rfl info_se ?_)
  refine (valid16R_any ⟨v, hs, q.val, zE, zS⟩ (.slice A1 n1 c1) (.slice A8 n8 c8) wf ⟨HHR.out.ext F9.out, R9.out⟩).mono ?_
  rintro e w10 ⟨rfl, b10⟩
  have F10 := Lib.hid (F9.out.tr b10)
  have S10 := Lib.hid (S9.out.ext b10)
  have X10 := Lib.hid (X9.out.tr b10)
  have Z10 := Lib.hid (Z9.out.ext b10)
  have R10 := Lib.hid (R9.out.ext b10)
  clear b10 y3 yf3 gl y4 yf4 gla hwd hwf
  by_cases hvd : vdS ⟨v, hs, q.val, zE, zS⟩ = 0
  case neg =>
    have HQ := Lib.hid (HV2.out.trans (if_pos hvd))
    have HK := Lib.hid hvd
    generalize vdS ⟨v, hs, q.val, zE, zS⟩ = zV at *
    have hkb : (zV != 0) = true := by simpa using hvd
    clear hvd
    go_wp2_with (refine wpRow_store rfl 37 _ _ rfl rfl w.heap.size (seRow 0 (.slice none 0 0) (.slice none 0 0) 0 0) rfl rfl 37 #[.int .i64 0, .slice none 0 0, .slice none 0 0, .int .i64 0, .int .i64 0] Z10.out info_se rfl (seRow_one _ _ _ rfl rfl) ?_)
    have RZ : SeAt (w10.setRow w.heap.size (seRow 0 (.slice none 0 0) (.slice none 0 0) 0 0)) w.heap.size seZ (.slice none 0 0) (.slice none 0 0) := row_at Z10.out
    have q0 : _ = some (Value.int .i64 0) := RZ.c0
    have q1 := RZ.c1
    have q2 := RZ.c2
    have q3 : _ = some (Value.int .i64 0) := RZ.c3
    have q4 : _ = some (Value.int .i64 0) := RZ.c4
    refine bodyPost_ret (v := .tuple #[.agg #[.int .i64 0, .slice none 0 0, .slice none 0 0, .int .i64 0, .int .i64 0], .int .i64 zV]) ?_ rfl ⟨ext_setRow X10.out (Nat.le_refl _) _, .inl ⟨zV, HQ.out, HK.out, rfl⟩⟩
    simp [results, Tryz.results29, go_sem, q0, q1, q2, q3, q4]
  have HQ := Lib.hid (HV2.out.trans (if_neg (not_not_intro hvd)))
  have HCK := Lib.hid (ckS_ok (vdS_ok hvd).1)
  rw [hvd]
  clear hvd
  go_wp2_with (first | (refine wpList_load_row rfl 37 _ rfl g rfl 37 (seRow v (.slice A1 n1 c1) (.slice A8 n8 c8) zE zS) (0, 0) _ S10.out Tryz.underlying37 rfl info_se ?_) | (refine wpRow_store rfl 37 _ _ rfl rfl w.heap.size (seRow v (.slice A1 n1 c1) (.slice A8 n8 c8) zE zS) rfl rfl 37 #[.int .i64 0, .slice none 0 0, .slice none 0 0, .int .i64 0, .int .i64 0] Z10.out info_se rfl (seRow_one _ _ _ rfl rfl) ?_))
  have RZ : SeAt (w10.setRow w.heap.size (seRow v (.slice A1 n1 c1) (.slice A8 n8 c8) zE zS)) w.heap.size ⟨v, [], [], zE, zS⟩ (.slice A1 n1 c1) (.slice A8 n8 c8) := row_at Z10.out
  have q0 : _ = some (Value.int .i64 v) := RZ.c0
  have q1 := RZ.c1
  have q2 := RZ.c2
  have q3 : _ = some (Value.int .i64 zE) := RZ.c3
  have q4 : _ = some (Value.int .i64 zS) := RZ.c4
  refine bodyPost_ret (v := .tuple #[seV ⟨v, hs, q.val, zE, zS⟩ (.slice A1 n1 c1) (.slice A8 n8 c8), .int .i64 0]) ?_ rfl ⟨ext_setRow X10.out (Nat.le_refl _) _, .inr ⟨_, _, _, HQ.out, rfl, ⟨Z10.out.hs (HHR.out.ext F10.out) (fun x hx => by have := (HCK.out.2.2.2 x hx).1; omega) _, Z10.out.rd R10.out _⟩⟩⟩
  simp [results, Tryz.results29, go_sem, seV, q0, q1, q2, q3, q4]
end Go.Proofs.YthbpdhanljpigaaGreatDoor
