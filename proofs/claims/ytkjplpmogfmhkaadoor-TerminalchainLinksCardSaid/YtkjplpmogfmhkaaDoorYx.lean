/- Law TerminalchainLinks: the walk. -/
import Derived.Test.YtkjplpmogfmhkaaDoorPkz
namespace Go.Proofs.YtkjplpmogfmhkaaDoor
open Go.RowKit
set_option linter.unusedVariables false
set_option maxRecDepth 100000

theorem sm_path1 {t : TR} {x : TC} (hs : smR t.ps) (hx : smT x) : smR (pathO t [x]).1.ps := by
  unfold pathO
  show smR (if 4 < [x].length then (t, zeroC, 72) else match startO t x.au with
    | none => (t, zeroC, 70)
    | some c => runP t c [x]).1.ps
  rw [if_neg (by simp)]
  cases startO t x.au with
  | none => exact hs
  | some c =>
    show smR (runP t c [x]).1.ps
    unfold runP
    split
    · exact hs
    · exact learn_sm hs hx
theorem TrR.len {w : World} {A : Option Addr} {n c : Nat} {d : Int} {t : TR} (h : TrR w (.agg #[.slice A n c, .int .i64 d]) t) : n = t.ps.length := by
  obtain ⟨A', n', c', e, hr⟩ := h
  obtain ⟨A2, n2, c2, e2, hn, _⟩ := hr.at_
  injection e2 with q1 q2 q3
  simp at e
  rw [e.1.2.1, q2]
  exact hn
theorem exists3 (u : TR × CH × Int) : ∃ ps dt c k, u = (⟨ps, dt⟩, c, k) := ⟨_, _, _, _, rfl⟩
set_option maxHeartbeats 8000000 in
theorem links_any (a b c d : Int) (w : World) (ha : -9223372036854775808 ≤ a ∧ a < 9223372036854775808) (hb : -9223372036854775808 ≤ b ∧ b < 9223372036854775808) (hc : -9223372036854775808 ≤ c ∧ c < 9223372036854775808) (hd : -9223372036854775808 ≤ d ∧ d < 9223372036854775808) (E : Env w) :
    Calls Tryd.prog 3 #[.int .i64 a, .int .i64 b, .int .i64 c, .int .i64 d] w (RetQ w (.bool true)) := by
  have HA := Lib.hid (fun W (e : Ext w W) => awake26_any W (E.ext e))
  have HM1 := Lib.hid (fun W => mod_any a 16 W ha.1 ha.2 (by omega))
  have HM2 := Lib.hid (fun W => mod_any b 16 W hb.1 hb.2 (by omega))
  have HM3 := Lib.hid (fun W => mod_any c 300 W hc.1 hc.2 (by omega))
  have HM4 := Lib.hid (fun W => mod_any d 500 W hd.1 hd.2 (by omega))
  have r1 := modI_bd (x := a) (m := 16) (by omega)
  have r2 := modI_bd (x := b) (m := 16) (by omega)
  have r3 := modI_bd (x := c) (m := 300) (by omega)
  have r4 := modI_bd (x := d) (m := 500) (by omega)
  generalize modI a 16 = r at *
  generalize modI b 16 = m at *
  generalize modI c 300 = f at *
  generalize modI d 500 = dd at *
  clear ha hb hc hd
  obtain ⟨r1, r1'⟩ := r1
  obtain ⟨r2, r2'⟩ := r2
  obtain ⟨r3, r3'⟩ := r3
  obtain ⟨r4, r4'⟩ := r4
  have HC1 := Lib.hid (fun W (e : Ext w W) => cert_any rootN root2N 1 r (100 + f) (100 + f + 100 + dd) W (by decide) (by decide) (E.ext e).r)
  have HC2 := Lib.hid (fun W (e : Ext w W) => cert_any rootN homeN 2 m (100 + f) (100 + f + 50) W (by decide) (by decide) (E.ext e).r)
  have HC3 := Lib.hid (fun W (e : Ext w W) => cert_any root2N homeN 2 m (100 + f) (100 + f + 50) W (by decide) (by decide) (E.ext e).r)
  have I1 := isCert (a := rootN) (h := root2N) (role := 1) (rights := r) (fr := 100 + f) (td := 100 + f + 100 + dd) name_root name_root2 (by omega) (by omega) (by show (0 : Int) ≤ 100 + f ∧ (100 + f : Int) ≤ 100 + f + 100 + dd ∧ (100 + f + 100 + dd : Int) ≤ 73048; omega)
  have I2 := isCert (a := rootN) (h := homeN) (role := 2) (rights := m) (fr := 100 + f) (td := 100 + f + 50) name_root name_home (by omega) (by omega) (by show (0 : Int) ≤ 100 + f ∧ (100 + f : Int) ≤ 100 + f + 50 ∧ (100 + f + 50 : Int) ≤ 73048; omega)
  have I3 := isCert (a := root2N) (h := homeN) (role := 2) (rights := m) (fr := 100 + f) (td := 100 + f + 50) name_root2 name_home (by omega) (by omega) (by show (0 : Int) ≤ 100 + f ∧ (100 + f : Int) ≤ 100 + f + 50 ∧ (100 + f + 50 : Int) ≤ 73048; omega)
  generalize certC rootN root2N 1 r (100 + f) (100 + f + 100 + dd) = v1 at *
  generalize certC rootN homeN 2 m (100 + f) (100 + f + 50) = v2 at *
  generalize certC root2N homeN 2 m (100 + f) (100 + f + 50) = v3 at *
  have HT := Lib.hid lawtrust26_any
  obtain ⟨K, hK⟩ : ∃ K, pw 4 kRoot = K := ⟨_, rfl⟩
  rw [hK] at HT
  have hK' : K = pw 4 (holderK rootN) := hK.symm
  obtain ⟨l1, l2, l3, l4, l5, l6, l7⟩ := links_path hK' ⟨r1, r1'⟩ ⟨r2, r2'⟩ (day := 100 + f) ⟨by omega, by omega⟩ ⟨r4, r4'⟩ I1 I2 I3
  have m1 := sm_cert I1
  have m2 := sm_cert I2
  have m3 := sm_cert I3
  have HK1 := Lib.hid (show Calls Tryd.prog 9 #[tcV v1] w (RetQ w (.int .i64 (ckT v1))) from checkR_any v1 w m1)
  have HK := Lib.hid (fun W => checkR_any v1 W m1)
  rw [I1.ck] at HK
  clear HK1
  have s0 : smR (trust0 K).ps := fun p hp => by rw [List.mem_singleton.1 hp]; exact (by decide : rootN.length ≤ maxLen)
  have s1 := sm_path1 (t := trust0 K) s0 m1
  have HQ1 := Lib.hid (fun (v lv : Value) W (e : Ext w W) (hv : TrR W v (trust0 K)) (hp : RdC W lv [v1]) => path26_any (trust0 K) [v1] W hv hp s0 (fun x hx => by rw [List.mem_singleton.1 hx]; exact m1) (by show (1 : Nat) ≤ _; omega) (E.ext e).d)
  obtain ⟨ps, dt, ch1, k1, hu⟩ := exists3 (pathO (trust0 K) [v1])
  rw [hu] at l1 l2 l3 l4 l5 l6 l7 s1 HQ1
  have HQ2 := Lib.hid (fun (v lv : Value) W (e : Ext w W) (hv : TrR W v ⟨ps, dt⟩) (hp : RdC W lv [v2]) => path26_any ⟨ps, dt⟩ [v2] W hv hp s1 (fun x hx => by rw [List.mem_singleton.1 hx]; exact m2) (by show ps.length ≤ _; have : ps.length = 2 := l3; omega) (E.ext e).d)
  have HQ3 := Lib.hid (fun (v lv : Value) W (e : Ext w W) (hv : TrR W v ⟨ps, dt⟩) (hp : RdC W lv [v3]) => path26_any ⟨ps, dt⟩ [v3] W hv hp s1 (fun x hx => by rw [List.mem_singleton.1 hx]; exact m3) (by show ps.length ≤ _; have : ps.length = 2 := l3; omega) (E.ext e).d)
  obtain ⟨ps2, dt2, ch2, k2, hu2⟩ := exists3 (pathO ⟨ps, dt⟩ [v2])
  obtain ⟨ps3, dt3, ch3, k3, hu3⟩ := exists3 (pathO ⟨ps, dt⟩ [v3])
  rw [show ((⟨ps, dt⟩, ch1, k1) : TR × CH × Int).1 = ⟨ps, dt⟩ from rfl] at l4 l5 l6 l7
  rw [hu2] at l4 l6 HQ2
  rw [hu3] at l5 l7 HQ3
  obtain rfl : k1 = 0 := l1
  obtain rfl : dt = 100 + f := l2
  have l3 : ps.length = 2 := l3
  obtain rfl : k2 = 0 := l4
  obtain rfl : k3 = 0 := l5
  have L6 := Lib.hid (show ch2.rights = andR m 7 from l6)
  have L7 := Lib.hid (show ch3.rights = andR (andR m 7) r from l7)
  have HL3 := Lib.hid l3
  clear hu hu2 hu3 l3 l6 l7 s0 s1 m1 m2 m3 I1 I2 I3 E hK hK'
  go_enter Tryd.func3, Tryd.ntmps3
  go_wp2_with fail
  refine (HT.out _).mono ?_
  rintro e w1 ⟨b1, A1, n1, c1, rfl, s1⟩
  have R1 : TrR w1 (.agg #[.slice A1 n1 c1, .int .i64 (trust0 K).dt]) (trust0 K) := ⟨_, _, _, rfl, s1.rd⟩
  obtain ⟨wa, hwa, ea, Ta⟩ := tr_alloc w1 A1 n1 c1 (trust0 K).dt
  have xa := b1.tr ea
  have Ra := R1.ext ea
  clear R1 b1 ea s1 HT
  go_wp2_with fail
  rw [← hwa]
  clear hwa
  refine (HM3.out _).mono ?_
  rintro e _ ⟨rfl, rfl⟩
  go_wp2_with fail
  refine (HM1.out _).mono ?_
  rintro e _ ⟨rfl, rfl⟩
  go_wp2_with fail
  refine (HM4.out _).mono ?_
  rintro e _ ⟨rfl, rfl⟩
  go_wp2_with fail
  refine (HC1.out _ xa).mono ?_
  rintro e w2 ⟨rfl, b2⟩
  unfold tcV
  obtain ⟨wb, hwb, eb, Cb⟩ := tc_alloc w2 v1
  have xb := (xa.tr b2).tr eb
  have Tb := (Ta.ext b2).ext eb
  have Rb := (Ra.ext b2).ext eb
  clear HC1 xa b2 eb Ta Ra HM3 HM4
  subst hwb
  have Cp := Cb
  have Tp := Tb
  have xp := xb
  have Rp := Rb
  clear Cb Tb xb Rb
  obtain ⟨t0, t1⟩ := Tp.cells
  obtain ⟨u0, u1, u2, u3, u4, u5, u6, u7, u8⟩ := Cp.cells
  go_wp2_with fail
  have e3 : Ext (w2.alloc (.cells #[.string (bstr v1.au), .string (bstr v1.ho), .int .i64 v1.key, .int .i64 v1.role, .int .i64 v1.rights, .int .i64 v1.fr, .int .i64 v1.to, .int .i64 v1.e, .int .i64 v1.s] 30)) ((w2.alloc (.cells #[.string (bstr v1.au), .string (bstr v1.ho), .int .i64 v1.key, .int .i64 v1.role, .int .i64 v1.rights, .int .i64 v1.fr, .int .i64 v1.to, .int .i64 v1.e, .int .i64 v1.s] 30)).alloc (.cells #[.string (bstr v1.au), .string (bstr v1.ho), .int .i64 v1.key, .int .i64 v1.role, .int .i64 v1.rights, .int .i64 v1.fr, .int .i64 v1.to, .int .i64 v1.e, .int .i64 v1.s] 30)) := (Below.refl _ _).alloc (Nat.le_refl _) _
  have L3 := RdK.lit (w2.alloc (.cells #[.string (bstr v1.au), .string (bstr v1.ho), .int .i64 v1.key, .int .i64 v1.role, .int .i64 v1.rights, .int .i64 v1.fr, .int .i64 v1.to, .int .i64 v1.e, .int .i64 v1.s] 30)) 9 #[.string (bstr v1.au), .string (bstr v1.ho), .int .i64 v1.key, .int .i64 v1.role, .int .i64 v1.rights, .int .i64 v1.fr, .int .i64 v1.to, .int .i64 v1.e, .int .i64 v1.s] 30 1 rfl (by unfold maxLen; omega)
  have z3 : (w2.alloc (.cells #[.string (bstr v1.au), .string (bstr v1.ho), .int .i64 v1.key, .int .i64 v1.role, .int .i64 v1.rights, .int .i64 v1.fr, .int .i64 v1.to, .int .i64 v1.e, .int .i64 v1.s] 30)).heap.size = w2.heap.size + 1 := Array.size_push _
  rw [z3] at L3
  clear z3
  refine (HQ1.out _ _ _ (xp.tr e3) (Rp.ext e3) L3).mono ?_
  rintro e w4 ⟨b9, A4, n4, c4, rfl, s9⟩
  have U9 : TrR w4 (.agg #[.slice A4 n4 c4, .int .i64 (100 + f)]) ⟨ps, 100 + f⟩ := ⟨_, _, _, rfl, s9.rd⟩
  clear s9
  have hn4 : n4 = 2 := U9.len.trans HL3.out
  subst hn4
  have x9 := (xp.tr e3).tr b9
  have C9 := (Cp.ext e3).ext b9
  clear t0 t1 u0 u1 u2 u3 u4 u5 u6 u7 u8 L3 xp b9 e3 Cp Rp Tp HQ1
  unfold chV
  obtain ⟨we, hwe, ee, Ve⟩ := tr_alloc w4 A4 2 c4 (100 + f)
  obtain ⟨wf, hwf, ef, Zp⟩ := ch_alloc we ch1
  have se : we.heap.size = w4.heap.size + 1 := by subst hwe; exact Array.size_push _
  rw [se] at Zp
  have Vp := Ve.ext ef
  have xp := (x9.tr ee).tr ef
  have Cp := (C9.ext ee).ext ef
  have Up := (U9.ext ee).ext ef
  clear ee ef se x9 Ve C9 U9
  subst hwf
  subst hwe
  clear Zp
  go_wp2_with fail
  refine (HM2.out _).mono ?_
  rintro e _ ⟨rfl, rfl⟩
  go_wp2_with fail
  refine (HC2.out _ xp).mono ?_
  rintro e w5 ⟨rfl, b9⟩
  unfold tcV
  obtain ⟨wb, hwb, eb, Dq⟩ := tc_alloc w5 v2
  have xq := (xp.tr b9).tr eb
  have Cq := (Cp.ext b9).ext eb
  have Uq := (Up.ext b9).ext eb
  have Vq := (Vp.ext b9).ext eb
  clear xp b9 eb HC2 Cp Up Vp
  subst hwb
  have Cp := Cq
  have Up := Uq
  have Vp := Vq
  have Dp := Dq
  have xp := xq
  clear Cq Uq Vq Dq xq
  go_wp2_with fail
  refine (HM2.out _).mono ?_
  rintro e _ ⟨rfl, rfl⟩
  go_wp2_with fail
  refine (HC3.out _ xp).mono ?_
  rintro e w6 ⟨rfl, b9⟩
  unfold tcV
  obtain ⟨wb, hwb, eb, Eq⟩ := tc_alloc w6 v3
  have xq := (xp.tr b9).tr eb
  have Cq := (Cp.ext b9).ext eb
  have Uq := (Up.ext b9).ext eb
  have Vq := (Vp.ext b9).ext eb
  have Dq := (Dp.ext b9).ext eb
  clear xp b9 eb HC3 Cp Up Vp Dp
  subst hwb
  have Cp := Cq
  have Up := Uq
  have Vp := Vq
  have Dp := Dq
  have Ep := Eq
  have xp := xq
  clear Cq Uq Vq Dq Eq xq
  obtain ⟨t0, t1⟩ := Vp.cells
  obtain ⟨u0, u1, u2, u3, u4, u5, u6, u7, u8⟩ := Dp.cells
  go_wp2_with fail
  have e3 : Ext (w6.alloc (.cells #[.string (bstr v3.au), .string (bstr v3.ho), .int .i64 v3.key, .int .i64 v3.role, .int .i64 v3.rights, .int .i64 v3.fr, .int .i64 v3.to, .int .i64 v3.e, .int .i64 v3.s] 30)) ((w6.alloc (.cells #[.string (bstr v3.au), .string (bstr v3.ho), .int .i64 v3.key, .int .i64 v3.role, .int .i64 v3.rights, .int .i64 v3.fr, .int .i64 v3.to, .int .i64 v3.e, .int .i64 v3.s] 30)).alloc (.cells #[.string (bstr v2.au), .string (bstr v2.ho), .int .i64 v2.key, .int .i64 v2.role, .int .i64 v2.rights, .int .i64 v2.fr, .int .i64 v2.to, .int .i64 v2.e, .int .i64 v2.s] 30)) := (Below.refl _ _).alloc (Nat.le_refl _) _
  have L3 := RdK.lit (w6.alloc (.cells #[.string (bstr v3.au), .string (bstr v3.ho), .int .i64 v3.key, .int .i64 v3.role, .int .i64 v3.rights, .int .i64 v3.fr, .int .i64 v3.to, .int .i64 v3.e, .int .i64 v3.s] 30)) 9 #[.string (bstr v2.au), .string (bstr v2.ho), .int .i64 v2.key, .int .i64 v2.role, .int .i64 v2.rights, .int .i64 v2.fr, .int .i64 v2.to, .int .i64 v2.e, .int .i64 v2.s] 30 1 rfl (by unfold maxLen; omega)
  have z3 : (w6.alloc (.cells #[.string (bstr v3.au), .string (bstr v3.ho), .int .i64 v3.key, .int .i64 v3.role, .int .i64 v3.rights, .int .i64 v3.fr, .int .i64 v3.to, .int .i64 v3.e, .int .i64 v3.s] 30)).heap.size = w6.heap.size + 1 := Array.size_push _
  rw [z3] at L3
  clear z3
  refine (HQ2.out _ _ _ (xp.tr e3) (Up.ext e3) L3).mono ?_
  rintro e w7 ⟨b9, A7, n7, c7, rfl, s9⟩
  have x9 := (xp.tr e3).tr b9
  have C9 := (Cp.ext e3).ext b9
  have U9 := (Up.ext e3).ext b9
  have V9 := (Vp.ext e3).ext b9
  have E9 := (Ep.ext e3).ext b9
  clear t0 t1 u0 u1 u2 u3 u4 u5 u6 u7 u8 L3 xp b9 e3 Cp Up Vp Ep HQ2
  clear Dp s9
  unfold chV
  obtain ⟨we, hwe, ee, Xe⟩ := tr_alloc w7 A7 n7 c7 (dt2)
  obtain ⟨wf, hwf, ef, Yp⟩ := ch_alloc we ch2
  have se : we.heap.size = w7.heap.size + 1 := by subst hwe; exact Array.size_push _
  rw [se] at Yp
  have Xp := Xe.ext ef
  have xp := (x9.tr ee).tr ef
  have Cp := (C9.ext ee).ext ef
  have Up := (U9.ext ee).ext ef
  have Vp := (V9.ext ee).ext ef
  have Ep := (E9.ext ee).ext ef
  clear ee ef se x9 Xe C9 U9 V9 E9
  subst hwf
  subst hwe
  clear Xp
  obtain ⟨t0, t1⟩ := Vp.cells
  obtain ⟨u0, u1, u2, u3, u4, u5, u6, u7, u8⟩ := Ep.cells
  go_wp2_with fail
  have e3 : Ext ((w7.alloc (.cells #[.slice A7 n7 c7, .int .i64 dt2] 24)).alloc (.cells #[.string (bstr ch2.ho), .int .i64 ch2.key, .int .i64 ch2.role, .int .i64 ch2.rights, .int .i64 ch2.fr, .int .i64 ch2.to] 33)) (((w7.alloc (.cells #[.slice A7 n7 c7, .int .i64 dt2] 24)).alloc (.cells #[.string (bstr ch2.ho), .int .i64 ch2.key, .int .i64 ch2.role, .int .i64 ch2.rights, .int .i64 ch2.fr, .int .i64 ch2.to] 33)).alloc (.cells #[.string (bstr v3.au), .string (bstr v3.ho), .int .i64 v3.key, .int .i64 v3.role, .int .i64 v3.rights, .int .i64 v3.fr, .int .i64 v3.to, .int .i64 v3.e, .int .i64 v3.s] 30)) := (Below.refl _ _).alloc (Nat.le_refl _) _
  have L3 := RdK.lit ((w7.alloc (.cells #[.slice A7 n7 c7, .int .i64 dt2] 24)).alloc (.cells #[.string (bstr ch2.ho), .int .i64 ch2.key, .int .i64 ch2.role, .int .i64 ch2.rights, .int .i64 ch2.fr, .int .i64 ch2.to] 33)) 9 #[.string (bstr v3.au), .string (bstr v3.ho), .int .i64 v3.key, .int .i64 v3.role, .int .i64 v3.rights, .int .i64 v3.fr, .int .i64 v3.to, .int .i64 v3.e, .int .i64 v3.s] 30 1 rfl (by unfold maxLen; omega)
  have z3 : ((w7.alloc (.cells #[.slice A7 n7 c7, .int .i64 dt2] 24)).alloc (.cells #[.string (bstr ch2.ho), .int .i64 ch2.key, .int .i64 ch2.role, .int .i64 ch2.rights, .int .i64 ch2.fr, .int .i64 ch2.to] 33)).heap.size = w7.heap.size + 1 + 1 := (Array.size_push _).trans (congrArg (fun z => z + 1) (Array.size_push _))
  rw [z3] at L3
  clear z3
  refine (HQ3.out _ _ _ (xp.tr e3) (Up.ext e3) L3).mono ?_
  rintro e w8 ⟨b9, A8, n8, c8, rfl, s9⟩
  have x9 := (xp.tr e3).tr b9
  have C9 := (Cp.ext e3).ext b9
  have V9 := (Vp.ext e3).ext b9
  have Y9 := (Yp.ext e3).ext b9
  clear t0 t1 u0 u1 u2 u3 u4 u5 u6 u7 u8 L3 xp b9 e3 Cp Vp Yp Up HQ3
  clear Ep s9
  unfold chV
  obtain ⟨we, hwe, ee, Xe⟩ := tr_alloc w8 A8 n8 c8 (dt3)
  obtain ⟨wf, hwf, ef, Qp⟩ := ch_alloc we ch3
  have se : we.heap.size = w8.heap.size + 1 := by subst hwe; exact Array.size_push _
  rw [se] at Qp
  have Xp := Xe.ext ef
  have xp := (x9.tr ee).tr ef
  have Cp := (C9.ext ee).ext ef
  have Vp := (V9.ext ee).ext ef
  have Yp := (Y9.ext ee).ext ef
  clear ee ef se x9 Xe C9 V9 Y9
  clear Xp
  go_wp2_with fail
  rw [← hwe, ← hwf]
  clear hwe hwf
  refine Gd.wp_region_X 49 (by kernel_rfl) (by kernel_rfl) ?_
  simp only [List.take_succ_cons, List.take_zero, List.drop_succ_cons, List.drop_zero]
  intro wq hw1
  have LL : ∀ q : Lt wq, Ext wf q.1 := fun q => hw1.tr q.2
  have g0 := fun q : Lt wq => (Vp.ext (LL q)).cells.1
  have g1 := fun q : Lt wq => (Vp.ext (LL q)).cells.2
  have g2 : ∀ q : Lt wq, q.1.cell? ⟨w7.heap.size + 1, 3, none⟩ = some (.int .i64 (bits .and .i64 m 7)) := fun q => by have h := (Yp.ext (LL q)).cells.2.2.2.1; rw [L6.out] at h; exact h
  have g3 : ∀ q : Lt wq, q.1.cell? ⟨w8.heap.size + 1, 3, none⟩ = some (.int .i64 (bits .and .i64 (bits .and .i64 m 7) r)) := fun q => by have h := (Qp.ext (LL q)).cells.2.2.2.1; rw [L7.out] at h; exact h
  have i0 := fun q : Lt wq => (Cp.ext (LL q)).cells.1
  have i1 := fun q : Lt wq => (Cp.ext (LL q)).cells.2.1
  have i2 := fun q : Lt wq => (Cp.ext (LL q)).cells.2.2.1
  have i3 := fun q : Lt wq => (Cp.ext (LL q)).cells.2.2.2.1
  have i4 := fun q : Lt wq => (Cp.ext (LL q)).cells.2.2.2.2.1
  have i5 := fun q : Lt wq => (Cp.ext (LL q)).cells.2.2.2.2.2.1
  have i6 := fun q : Lt wq => (Cp.ext (LL q)).cells.2.2.2.2.2.2.1
  have i7 := fun q : Lt wq => (Cp.ext (LL q)).cells.2.2.2.2.2.2.2.1
  have i8 := fun q : Lt wq => (Cp.ext (LL q)).cells.2.2.2.2.2.2.2.2
  refine Gd.wpX_callFn (by first | exact trivial | exact ⟨_, rfl, rfl, rfl⟩) (.bool true) (args := []) rfl rfl rfl rfl (by kernel_rfl) rfl rfl (fun q => (HA.out q.1 (xp.tr (LL q))).mono fun _ _ ⟨h1, h2⟩ => ⟨h1, h2⟩) ?_
  simp only [Act.put, List.setIfInBounds_toArray, List.set_cons_zero, List.set_cons_succ]
  repeat (refine Gd.wpX_pure (by first | exact trivial | exact ⟨_, rfl, rfl, rfl⟩) rfl rfl rfl rfl rfl (fun K hK => ?_); go_big_quiet_op; refine hK _ ?_; clear hK K)
  refine Gd.wpX_callFn (by first | exact trivial | exact ⟨_, rfl, rfl, rfl⟩) (.int .i64 m) (args := [.int .i64 b, .int .i64 16]) rfl rfl rfl rfl (by kernel_rfl) rfl rfl (fun q => (HM2.out q.1).mono fun _ _ ⟨h1, h2⟩ => ⟨h1, h2 ▸ Below.refl _ _⟩) ?_
  simp only [Act.put, List.setIfInBounds_toArray, List.set_cons_zero, List.set_cons_succ]
  repeat (refine Gd.wpX_pure (by first | exact trivial | exact ⟨_, rfl, rfl, rfl⟩) rfl rfl rfl rfl rfl (fun K hK => ?_); go_big_quiet_op; refine hK _ ?_; clear hK K)
  refine Gd.wpX_callFn (by first | exact trivial | exact ⟨_, rfl, rfl, rfl⟩) (.int .i64 m) (args := [.int .i64 b, .int .i64 16]) rfl rfl rfl rfl (by kernel_rfl) rfl rfl (fun q => (HM2.out q.1).mono fun _ _ ⟨h1, h2⟩ => ⟨h1, h2 ▸ Below.refl _ _⟩) ?_
  simp only [Act.put, List.setIfInBounds_toArray, List.set_cons_zero, List.set_cons_succ]
  repeat (refine Gd.wpX_pure (by first | exact trivial | exact ⟨_, rfl, rfl, rfl⟩) rfl rfl rfl rfl rfl (fun K hK => ?_); go_big_quiet_op; refine hK _ ?_; clear hK K)
  refine Gd.wpX_callFn (by first | exact trivial | exact ⟨_, rfl, rfl, rfl⟩) (.int .i64 r) (args := [.int .i64 a, .int .i64 16]) rfl rfl rfl rfl (by kernel_rfl) rfl rfl (fun q => (HM1.out q.1).mono fun _ _ ⟨h1, h2⟩ => ⟨h1, h2 ▸ Below.refl _ _⟩) ?_
  simp only [Act.put, List.setIfInBounds_toArray, List.set_cons_zero, List.set_cons_succ]
  repeat (refine Gd.wpX_pure (by first | exact trivial | exact ⟨_, rfl, rfl, rfl⟩) rfl rfl rfl rfl rfl (fun K hK => ?_); go_big_quiet_op; refine hK _ ?_; clear hK K)
  refine Gd.wpX_callFn (by first | exact trivial | exact ⟨_, rfl, rfl, rfl⟩) (.int .i64 0) (args := [tcV v1]) rfl rfl rfl rfl (by kernel_rfl) rfl rfl (fun q => (HK.out q.1).mono fun _ _ ⟨h1, h2⟩ => ⟨h1, h2⟩) ?_
  simp only [Act.put, List.setIfInBounds_toArray, List.set_cons_zero, List.set_cons_succ]
  repeat (refine Gd.wpX_pure (by first | exact trivial | exact ⟨_, rfl, rfl, rfl⟩) rfl rfl rfl rfl rfl (fun K hK => ?_); go_big_quiet_op; refine hK _ ?_; clear hK K)
  refine Gd.wpX_end0 (fun q => ?_)
  have Lm := xp.tr (LL q)
  obtain ⟨wm, hwm⟩ := q
  clear LL g0 g1 g2 g3 i0 i1 i2 i3 i4 i5 i6 i7 i8
  show wpList _ _ _ _ _ _
  go_wp2_with fail
  go_ret
  exact ⟨rfl, Lm⟩
end Go.Proofs.YtkjplpmogfmhkaaDoor
