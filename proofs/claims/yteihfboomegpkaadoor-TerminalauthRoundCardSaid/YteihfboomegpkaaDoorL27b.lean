/- The walk of the law 27: TerminalauthRound. -/
import Derived.Test.YteihfboomegpkaaDoorL27
namespace Go.Proofs.YteihfboomegpkaaDoor
open Go.RowKit
set_option linter.unusedVariables false
set_option maxRecDepth 100000

theorem Own.poke {w : World} {B : Nat} {A : Option Addr} {n c : Nat} {l : List UInt8} (h : Own w B 5 (.slice A n c) (bvs l)) (h0 : 0 < n) :
    ∃ g, A = some ⟨g, 0, none⟩ ∧ B ≤ g ∧ g < w.heap.size ∧ n ≤ c ∧ c ≤ maxLen ∧ ∀ W, Ext w W → (∀ j, j < n → W.cell? ⟨g, j, none⟩ = some (.int .u8 (byteI l j))) ∧ (∀ j, W.frozen? ⟨g, j, none⟩ = false) ∧
      (∀ (j : Nat) (z : Int), j < n → 0 ≤ z → z < 256 → Rd (W.setCell ⟨g, j, none⟩ (.int .u8 z)) (.slice A n c) (bvs (l.set j (u8 z)))) := by
  obtain ⟨A', n', c', e, hn, h | ⟨g, cur, hA, h1, hg, hnc, hcm, hcs, ht⟩⟩ := h
  · injection e with e1 e2 e3
    omega
  · injection e with e1 e2 e3
    subst e1 e2 e3 hA
    rw [bvs_length] at hn
    refine ⟨g, rfl, h1, block_lt hg, hnc, hcm, fun W hW => ?_⟩
    have hgW : W.heap[g]? = some (.cells cur 5 (0, 0)) := (hW.block g (block_lt hg)).trans hg
    have hat : ∀ j, j < n → cur[j]? = some (.int .u8 (byteI l j)) := fun j hj => by
      have : (cur.toList.take n)[j]? = (bvs l)[j]? := by rw [ht]
      rw [List.getElem?_take, if_pos hj] at this
      have h2 : (bvs l)[j]? = some (.int .u8 (byteI l j)) := by rw [byteI_get (by omega)]; simp [bvs, bv, show j < l.length by omega]
      rw [h2] at this
      simpa using this
    refine ⟨fun j hj => by rw [cell_of_row W g j cur _ _ hgW]; exact hat j hj, fun j => ?_, fun j z hj z0 z1 => ?_⟩
    · simp [World.frozen?, hgW]
    · refine ⟨_, n, c, rfl, by rw [bvs_length, List.length_set]; exact hn, hnc, hcm, fun _ => ⟨g, 0, rfl, fun i u hu => ?_⟩⟩
      rw [Nat.zero_add]
      have hrow : (W.setCell ⟨g, j, none⟩ (.int .u8 z)).heap[g]? = some (.cells (cur.setIfInBounds j (.int .u8 z)) 5 (0, 0)) := by
        simp only [World.setCell, Array.getElem?_modify, if_true, hgW, Option.map_some]
        rfl
      rw [cell_of_row _ g i _ _ _ hrow]
      have hi : i < n := by
        have := (List.getElem?_eq_some_iff.1 hu).1
        rw [bvs_length, List.length_set] at this
        omega
      by_cases hij : i = j
      · subst hij
        have : u = .int .u8 z := by
          have h3 : (bvs (l.set i (u8 z)))[i]? = some (bv (u8 z)) := by simp [bvs, show i < l.length by omega]
          rw [h3, bv_u8, Int.emod_eq_of_lt z0 z1] at hu
          exact (Option.some.inj hu).symm
        rw [this]
        simp [show i < cur.size by omega]
      · rw [Array.getElem?_setIfInBounds_ne (Ne.symm hij), hat i hi, ← hu]
        rw [byteI_get (by omega)]
        simp [bvs, bv, Ne.symm hij, show i < l.length by omega]
theorem bits_u8 (op : BinOp) (x y : Int) : 0 ≤ bits op .u8 x y ∧ bits op .u8 x y < 256 := by
  have h : ∀ n : Int, IntKind.u8.wrap n = n % 256 := fun n => by simp [IntKind.wrap, IntKind.signed, IntKind.bits]
  unfold bits
  simp only [h]
  omega
theorem true_ne {a b : Int} (h : decide (a = b) = true) : True := trivial
theorem false_ne {a b : Int} (h : decide (a = b) = false) : ¬ a = b := of_decide_eq_false h
def idL : List UInt8 := [76, 56, 57, 56, 57, 48, 50, 67, 51]
theorem rdId9 (w : World) : Rd (w.alloc (.cells #[.int .u8 76, .int .u8 56, .int .u8 57, .int .u8 56, .int .u8 57, .int .u8 48, .int .u8 50, .int .u8 67, .int .u8 51] 5 (9, 10))) (.slice (some ⟨w.heap.size, 0, none⟩) 9 9) (bvs idL) := Rd.litM w _ _ _ 9 rfl (by unfold maxLen; omega)
set_option maxHeartbeats 4000000 in
theorem round27_any (a0 a1 a2 a3 a4 a5 a6 : Int) (w : World) (x0 : -9223372036854775808 ≤ a0) (y0 : a0 < 9223372036854775808) (x3 : -9223372036854775808 ≤ a3) (y3 : a3 < 9223372036854775808) (x4 : -9223372036854775808 ≤ a4) (y4 : a4 < 9223372036854775808)
    (x5 : -9223372036854775808 ≤ a5) (y5 : a5 < 9223372036854775808) (x6 : -9223372036854775808 ≤ a6) (y6 : a6 < 9223372036854775808) (E : Env w) :
    Calls Tryd.prog 20 #[.int .i64 a0, .int .i64 a1, .int .i64 a2, .int .i64 a3, .int .i64 a4, .int .i64 a5, .int .i64 a6] w (RetQ w (.bool true)) := by
  have kc := fun (w : World) (C : Array Value) (n c : Nat) => Lib.run_convert_bytes_const (P := Tryd.prog) w 22 5 C n c Tryd.underlying22 Tryd.underlying5
  obtain ⟨k0, k1⟩ := near_bd a0
  have hN8 := nonceL_length a1
  have hY8 := nonceL_length a2
  obtain ⟨m40, m41⟩ := modI_bd (x := a4) (m := 4) (by omega)
  obtain ⟨m50, m51⟩ := modI_bd (x := a5) (m := 25) (by omega)
  obtain ⟨m60, m61⟩ := modI_bd (x := a6) (m := 255) (by omega)
  obtain ⟨m30, m31⟩ := modI_bd (x := a3) (m := 65536) (by omega)
  have HM4 := fun w => mod_any a4 4 w x4 y4 (by omega)
  have HM3 := fun w => mod_any a3 65536 w x3 y3 (by omega)
  have HM5 := fun w => mod_any a5 25 w x5 y5 (by omega)
  have HM6 := fun w => mod_any a6 255 w x6 y6 (by omega)
  have HN := fun w => nonce_any a1 w
  have HY := fun w => nonce_any a2 w
  have HP := fun (ok : taOk idL (nonceL a1) (nonceL a2)) => prove_right a0 ok
  have HS := fun w => secretM_any a0 w x0 y0
  generalize nonceL a1 = N at *
  generalize nonceL a2 = Y at *
  generalize modI a4 4 = r4 at *
  generalize modI a3 65536 = r3 at *
  obtain ⟨j, hj⟩ := Int.eq_ofNat_of_zero_le m50
  rw [hj] at HM5 m50 m51
  generalize modI a6 255 = r6 at *
  have ok : taOk idL N Y := ⟨by decide, by decide, hN8, hY8⟩
  obtain ⟨pk, pv⟩ := HP ok
  clear HP hj
  generalize nearI a0 = k at *
  generalize pw 4 k = key at *
  have HS := Lib.hid HS
  have HN := Lib.hid HN
  have HY := Lib.hid HY
  have HM3 := Lib.hid HM3
  have HM4 := Lib.hid HM4
  have HM5 := Lib.hid HM5
  have HM6 := Lib.hid HM6
  have cb : ∀ W : World, (Instr.build 65 #[(0, .string ⟨#[84, 69, 82, 77, 49]⟩), (1, .int .i64 key), (2, .int .i64 (1 + r4)), (3, .int .i64 r3)]).run Tryd.prog W = .ok (.agg #[.string ⟨#[84, 69, 82, 77, 49]⟩, .int .i64 key, .int .i64 (1 + r4), .int .i64 r3, .int .i64 0, .int .i64 0]) W := fun W => run_build W _ _ _ (by kernel_rfl)
  go_enter Tryd.func20, Tryd.ntmps20
  go_wp2_with fail
  refine (HS.out _).mono ?_
  rintro e w' ⟨rfl, rfl⟩
  go_wp2_with fail
  have e1 : Ext w (w.alloc (.cells #[.int .u8 76, .int .u8 56, .int .u8 57, .int .u8 56, .int .u8 57, .int .u8 48, .int .u8 50, .int .u8 67, .int .u8 51] 5 (9, 10))) := (Below.refl _ _).alloc (Nat.le_refl _) _
  have rI := rdId9 w
  refine (HN.out _).mono ?_
  rintro e w2 ⟨A1, n1, c1, rfl, hn1, o1, b2⟩
  go_wp2_with fail
  refine (HY.out _).mono ?_
  rintro e w3 ⟨A2, n2, c2, rfl, hn2, o2, b3⟩
  go_wp2_with fail
  refine (HM4.out _).mono ?_
  rintro e w' ⟨rfl, rfl⟩
  go_wp2_with fail
  refine (HM3.out _).mono ?_
  rintro e w' ⟨rfl, rfl⟩
  go_wp2_with fail
  obtain ⟨wc, hwc⟩ : ∃ wc, wc = w3.alloc (.cells #[.string ⟨#[84, 69, 82, 77, 49]⟩, .int .i64 key, .int .i64 (1 + r4), .int .i64 r3, .int .i64 0, .int .i64 0] 65) := ⟨_, rfl⟩
  have ec : Ext w3 wc := by rw [hwc]; exact (Below.refl _ _).alloc (Nat.le_refl _) _
  have CC : ∀ W, Ext wc W → W.cell? ⟨w3.heap.size, 0, none⟩ = some (.string ⟨#[84, 69, 82, 77, 49]⟩) ∧ W.cell? ⟨w3.heap.size, 1, none⟩ = some (.int .i64 key) ∧ W.cell? ⟨w3.heap.size, 2, none⟩ = some (.int .i64 (1 + r4)) ∧ W.cell? ⟨w3.heap.size, 3, none⟩ = some (.int .i64 r3) ∧ W.cell? ⟨w3.heap.size, 4, none⟩ = some (.int .i64 0) ∧ W.cell? ⟨w3.heap.size, 5, none⟩ = some (.int .i64 0) := fun W hW => by
    have l1 : w3.heap.size < wc.heap.size := by rw [hwc]; simp
    exact ⟨(hW.cell (p := ⟨w3.heap.size, 0, none⟩) l1).trans (by rw [hwc]; go_simp), (hW.cell (p := ⟨w3.heap.size, 1, none⟩) l1).trans (by rw [hwc]; go_simp), (hW.cell (p := ⟨w3.heap.size, 2, none⟩) l1).trans (by rw [hwc]; go_simp), (hW.cell (p := ⟨w3.heap.size, 3, none⟩) l1).trans (by rw [hwc]; go_simp), (hW.cell (p := ⟨w3.heap.size, 4, none⟩) l1).trans (by rw [hwc]; go_simp), (hW.cell (p := ⟨w3.heap.size, 5, none⟩) l1).trans (by rw [hwc]; go_simp)⟩
  have HC := Lib.hid CC
  rw [← hwc]
  have hlc : w3.heap.size < wc.heap.size := by rw [hwc]; simp
  clear hwc cb kc CC
  have xc := ((e1.tr b2).tr b3).tr ec
  have f1 := ((b2.tr b3).tr ec)
  have f2 := (b3.tr ec)
  refine (prove_any _ _ (rI.ext f1) (o1.rd.ext f2) (o2.rd.ext ec) (E.ext xc).d).mono ?_
  rintro e w4 ⟨rfl, b4⟩
  unfold sgV
  rw [pk]
  generalize pvE k idL N Y = e4 at *
  generalize pvS k idL N Y = s4 at *
  obtain ⟨ws, hws, ss⟩ := sg_alloc w4 e4 s4
  have SA := Lib.hid (fun (W : World) (h : Ext ws W) => ss.keep h)
  have xs := (xc.tr b4).tr ss.ext
  have g1 := (f1.tr b4).tr ss.ext
  have g2 := (f2.tr b4).tr ss.ext
  have g3 := (ec.tr b4).tr ss.ext
  have g4 := b4.tr ss.ext
  have hl4 : w3.heap.size < w4.heap.size := Nat.lt_of_lt_of_le hlc b4.size
  obtain ⟨q0, q1, q2, q3, q4, q5⟩ := HC.out _ b4
  obtain ⟨u0, u1, u2, u3, u4, u5⟩ := HC.out _ g4
  rw [hws] at u0 u1 u2 u3 u4 u5
  go_wp2_with fail
  rw [← hws]
  clear hws q0 q1 q2 q3 q4 q5 u0 u1 u2 u3 u4 u5 hl4 hlc
  obtain ⟨R, bb, hR, hb, hc⟩ : ∃ R bb, acR key (1 + r4) r3 idL N Y e4 s4 = R ∧ decide (acB key (1 + r4) idL N Y e4 s4) = bb ∧ ((bb = true ∧ r3 = R ∧ decide (1 + r4 = 4) = true) ∨ (bb = false ∧ R = 0 ∧ decide (1 + r4 = 4) = false)) := by
    by_cases hr : 1 + r4 = 4
    · have ac : acB key (1 + r4) idL N Y e4 s4 := ⟨hr, ok, pv⟩
      exact ⟨_, _, rfl, rfl, .inl ⟨decide_eq_true ac, (if_pos ac).symm, decide_eq_true hr⟩⟩
    · have ac : ¬ acB key (1 + r4) idL N Y e4 s4 := fun h => hr h.1
      exact ⟨_, _, rfl, rfl, .inr ⟨decide_eq_false ac, if_neg ac, decide_eq_false hr⟩⟩
  refine (accept_any _ _ _ _ _ _ _ _ _ (rI.ext g1) (o1.rd.ext g2) (o2.rd.ext g3) (E.ext xs).d).mono ?_
  rw [hR, hb]
  clear hR hb
  rintro e w5 ⟨rfl, b5⟩
  have x5' := xs.tr b5
  obtain ⟨q0, q1, q2, q3, q4, q5⟩ := HC.out _ (g4.tr b5)
  have i1 := rI.ext (g1.tr b5)
  have i2 := o1.rd.ext (g2.tr b5)
  have i3 := o2.rd.ext (g3.tr b5)
  rcases hc with ⟨rfl, hr0, hd⟩ | ⟨rfl, hr0, hd⟩
  · subst hr0
    have hd3 : (1 + r4 == 4) = true := by simpa using hd
    have hd4 := true_ne hd
    have e6 : Ext w5 (w5.alloc (.cells #[] 5)) := (Below.refl _ _).alloc (Nat.le_refl _) _
    have o6 : Own (w5.alloc (.cells #[] 5)) w5.heap.size 5 (.slice (some ⟨w5.heap.size, 0, none⟩) 0 0) (bvs []) := Own.empty _ _ _ _
    go_wp2_with (first
      | (refine appB o6 (i1.ext e6) e6 (by decide) e6.size rfl rfl rfl rfl ?_; intro A6 n6 c6 w6 hn6 o7 (b6 : Ext _ _) g6)
      | (refine appB o7 (i2.ext b6) b6 (by simp [idL]; omega) b6.size rfl rfl rfl rfl ?_; intro A7 n7 c7 w7 hn7 o8 (b7 : Ext _ _) g7)
      | (refine appB o8 (i3.ext b7) b7 (by simp [idL]; omega) b7.size rfl rfl rfl rfl ?_; intro A8 n8 c8 w8 hn8 o9 (b8 : Ext _ _) g8))
    obtain rfl : n8 = 25 := by rw [hn8.out]; simp [idL]; omega
    obtain ⟨g, rfl, hg, hgl, hnc, hcm, poke⟩ := o9.poke (by omega)
    have PK := Lib.hid poke
    generalize ([] ++ idL ++ N ++ Y : List UInt8) = al at *
    clear q0 q1 q2 q3 q4 q5 poke o6 o7 o8 o9 i1 i2 i3 b6 b7 hn6 hn7 hn8 g6 g7 g8
    have bd0 := byteI_lo al j
    have bd1 := byteI_hi al j
    have wi1 : IntKind.i64.wrap ((j : Int)) = (j : Int) := IntWalk.i64_in _ (by omega)
    have zi1 : (0 : Int) ≤ (j : Int) := by omega
    have li1 : (j : Int) < 25 := by omega
    have ti1 : ((j : Int)).toNat = j := by omega
    refine Gd.wp_region_X 13 (by kernel_rfl) (by kernel_rfl) ?_
    simp only [List.take_succ_cons, List.take_zero, List.drop_succ_cons, List.drop_zero]
    intro w1 hw1
    have L : ∀ m : Lt w1, Ext w8 m.1 := fun m => hw1.tr m.2
    have qc : ∀ m : Lt w1, m.1.cell? ⟨g, j, none⟩ = some (.int .u8 (byteI al j)) := fun m => (PK.out _ (L m)).1 j (by omega)
    repeat (refine Gd.wpX_pure (by first | exact trivial | exact ⟨_, rfl, rfl, rfl⟩) rfl rfl rfl rfl rfl (fun K hK => ?_); go_big_quiet_op; refine hK _ ?_; clear hK K)
    refine Gd.wpX_callFn (by first | exact trivial | exact ⟨_, rfl, rfl, rfl⟩) (.int .i64 (j : Int)) rfl rfl rfl rfl (by kernel_rfl) rfl rfl (fun m => (HM5.out m.1).mono fun _ _ ⟨h1, h2⟩ => ⟨h1, h2 ▸ Below.refl _ _⟩) ?_
    simp only [Act.put, List.setIfInBounds_toArray, List.set_cons_zero, List.set_cons_succ]
    repeat (refine Gd.wpX_pure (by first | exact trivial | exact ⟨_, rfl, rfl, rfl⟩) rfl rfl rfl rfl rfl (fun K hK => ?_); go_big_quiet_op; refine hK _ ?_; clear hK K)
    refine Gd.wpX_callFn (by first | exact trivial | exact ⟨_, rfl, rfl, rfl⟩) (.int .i64 r6) rfl rfl rfl rfl (by kernel_rfl) rfl rfl (fun m => (HM6.out m.1).mono fun _ _ ⟨h1, h2⟩ => ⟨h1, h2 ▸ Below.refl _ _⟩) ?_
    simp only [Act.put, List.setIfInBounds_toArray, List.set_cons_zero, List.set_cons_succ]
    repeat (refine Gd.wpX_pure (by first | exact trivial | exact ⟨_, rfl, rfl, rfl⟩) rfl rfl rfl rfl rfl (fun K hK => ?_); go_big_quiet_op; refine hK _ ?_; clear hK K)
    refine Gd.wpX_end0 (fun m => ?_)
    have Lm : Ext w8 m.1 := L m
    obtain ⟨cl, fr, wr⟩ := PK.out _ Lm
    have cl := cl j (by omega)
    have fr := fr j
    have WR := Lib.hid (fun z => wr j z (by omega))
    obtain ⟨wy, hwy⟩ := m
    clear L qc wr
    go_wp2_with fail
    obtain ⟨z0, z1⟩ := bits_u8 .xor (byteI al j) (1 + r6)
    generalize bits BinOp.xor IntKind.u8 (byteI al j) (1 + r6) = z at *
    have RZ := WR.out z z0 z1
    generalize al.set j (u8 z) = am at RZ
    have y9 : Ext w5 (wy.setCell ⟨g, j, none⟩ (.int .u8 z)) := (b8.tr Lm).setCell (p := ⟨g, j, none⟩) hg _
    generalize wy.setCell ⟨g, j, none⟩ (.int .u8 z) = wz at *
    clear WR cl fr PK Lm b8 bd0 bd1 hgl
    have ra := RZ.take 9 (by omega)
    have rb := (RZ.take 17 (by omega)).dropB 9 (by omega)
    have rc := RZ.dropB 17 (by omega)
    have AC : ∀ W, Ext wz W → Calls Tryd.prog 57 [.agg #[.string ⟨#[84, 69, 82, 77, 49]⟩, .int .i64 key, .int .i64 (1 + r4), .int .i64 r3, .int .i64 0, .int .i64 0], .slice (some ⟨g, 0, none⟩) 9 c8, .slice (some ⟨g, 9, none⟩) 8 (c8 - 9), .slice (some ⟨g, 17, none⟩) 8 (c8 - 17), .agg #[.int .i64 e4, .int .i64 s4]].toArray W (RetQ W (.tuple #[.int .i64 (acR key (1 + r4) r3 (List.take 9 am) (List.drop 9 (List.take 17 am)) (List.drop 17 am) e4 s4), .bool (decide (acB key (1 + r4) (List.take 9 am) (List.drop 9 (List.take 17 am)) (List.drop 17 am) e4 s4))])) := fun W h => accept_any ⟨#[84, 69, 82, 77, 49]⟩ key (1 + r4) r3 0 0 e4 s4 W (ra.ext h) (rb.ext h) (rc.ext h) (E.ext ((x5'.tr y9).tr h)).d
    have RC : ∀ W, Ext wz W → Calls Tryd.prog 58 [.agg #[.string ⟨#[84, 69, 82, 77, 49]⟩, .int .i64 key, .int .i64 (1 + r4), .int .i64 r3, .int .i64 0, .int .i64 0], .slice (some ⟨g, 0, none⟩) 9 c8, .slice (some ⟨g, 9, none⟩) 8 (c8 - 9), .slice (some ⟨g, 17, none⟩) 8 (c8 - 17), .agg #[.int .i64 e4, .int .i64 s4]].toArray W (RetQ W (.tuple #[.int .i64 (acR key (1 + r4) r3 (List.take 9 am) (List.drop 9 (List.take 17 am)) (List.drop 17 am) e4 s4), .bool (decide (acB key (1 + r4) (List.take 9 am) (List.drop 9 (List.take 17 am)) (List.drop 17 am) e4 s4))])) := fun W h => refaccept_any ⟨#[84, 69, 82, 77, 49]⟩ key (1 + r4) r3 0 0 e4 s4 W (ra.ext h) (rb.ext h) (rc.ext h) (E.ext ((x5'.tr y9).tr h)).r
    generalize acR key (1 + r4) r3 (List.take 9 am) (List.drop 9 (List.take 17 am)) (List.drop 17 am) e4 s4 = zr at AC RC
    generalize decide (acB key (1 + r4) (List.take 9 am) (List.drop 9 (List.take 17 am)) (List.drop 17 am) e4 s4) = zb at AC RC
    have HA := Lib.hid AC
    have HR := Lib.hid RC
    clear AC RC ra rb rc RZ
    refine Gd.wp_region_X 14 (by kernel_rfl) (by kernel_rfl) ?_
    simp only [List.take_succ_cons, List.take_zero, List.drop_succ_cons, List.drop_zero]
    intro w1 hw1
    have L : ∀ m : Lt w1, Ext wz m.1 := fun m => hw1.tr m.2
    have q0 : ∀ m : Lt w1, m.1.cell? ⟨w3.heap.size, 0, none⟩ = some (.string ⟨#[84, 69, 82, 77, 49]⟩) := fun m => (HC.out _ ((g4.tr b5).tr (y9.tr (L m)))).1
    have q1 : ∀ m : Lt w1, m.1.cell? ⟨w3.heap.size, 1, none⟩ = some (.int .i64 key) := fun m => (HC.out _ ((g4.tr b5).tr (y9.tr (L m)))).2.1
    have q2 : ∀ m : Lt w1, m.1.cell? ⟨w3.heap.size, 2, none⟩ = some (.int .i64 (1 + r4)) := fun m => (HC.out _ ((g4.tr b5).tr (y9.tr (L m)))).2.2.1
    have q3 : ∀ m : Lt w1, m.1.cell? ⟨w3.heap.size, 3, none⟩ = some (.int .i64 r3) := fun m => (HC.out _ ((g4.tr b5).tr (y9.tr (L m)))).2.2.2.1
    have q4 : ∀ m : Lt w1, m.1.cell? ⟨w3.heap.size, 4, none⟩ = some (.int .i64 0) := fun m => (HC.out _ ((g4.tr b5).tr (y9.tr (L m)))).2.2.2.2.1
    have q5 : ∀ m : Lt w1, m.1.cell? ⟨w3.heap.size, 5, none⟩ = some (.int .i64 0) := fun m => (HC.out _ ((g4.tr b5).tr (y9.tr (L m)))).2.2.2.2.2
    have p0 : ∀ m : Lt w1, m.1.cell? ⟨w4.heap.size, 0, none⟩ = some (.int .i64 e4) := fun m => (SA.out _ (b5.tr (y9.tr (L m)))).c0
    have p1 : ∀ m : Lt w1, m.1.cell? ⟨w4.heap.size, 1, none⟩ = some (.int .i64 s4) := fun m => (SA.out _ (b5.tr (y9.tr (L m)))).c1
    repeat (refine Gd.wpX_pure (by first | exact trivial | exact ⟨_, rfl, rfl, rfl⟩) rfl rfl rfl rfl rfl (fun K hK => ?_); go_big_quiet_op; refine hK _ ?_; clear hK K)
    refine Gd.wpX_callFn (args := [.agg #[.string ⟨#[84, 69, 82, 77, 49]⟩, .int .i64 key, .int .i64 (1 + r4), .int .i64 r3, .int .i64 0, .int .i64 0], .slice (some ⟨g, 0, none⟩) 9 c8, .slice (some ⟨g, 9, none⟩) 8 (c8 - 9), .slice (some ⟨g, 17, none⟩) 8 (c8 - 17), .agg #[.int .i64 e4, .int .i64 s4]]) (by first | exact trivial | exact ⟨_, rfl, rfl, rfl⟩) (.tuple #[.int .i64 zr, .bool zb]) rfl rfl rfl rfl (by kernel_rfl) rfl rfl (fun m => HA.out _ (L m)) ?_
    simp only [Act.put, List.setIfInBounds_toArray, List.set_cons_zero, List.set_cons_succ]
    repeat (refine Gd.wpX_pure (by first | exact trivial | exact ⟨_, rfl, rfl, rfl⟩) rfl rfl rfl rfl rfl (fun K hK => ?_); go_big_quiet_op; refine hK _ ?_; clear hK K)
    refine Gd.wpX_end0 (fun m => ?_)
    have L1 : Ext wz m.1 := L m
    obtain ⟨wv1, hwv1⟩ := m
    clear L q0 q1 q2 q3 q4 q5 p0 p1
    go_wp2_with fail
    refine Gd.wp_region_X 14 (by kernel_rfl) (by kernel_rfl) ?_
    simp only [List.take_succ_cons, List.take_zero, List.drop_succ_cons, List.drop_zero]
    intro w1 hw1
    have L : ∀ m : Lt w1, Ext wz m.1 := fun m => L1.tr (hw1.tr m.2)
    have q0 : ∀ m : Lt w1, m.1.cell? ⟨w3.heap.size, 0, none⟩ = some (.string ⟨#[84, 69, 82, 77, 49]⟩) := fun m => (HC.out _ ((g4.tr b5).tr (y9.tr (L m)))).1
    have q1 : ∀ m : Lt w1, m.1.cell? ⟨w3.heap.size, 1, none⟩ = some (.int .i64 key) := fun m => (HC.out _ ((g4.tr b5).tr (y9.tr (L m)))).2.1
    have q2 : ∀ m : Lt w1, m.1.cell? ⟨w3.heap.size, 2, none⟩ = some (.int .i64 (1 + r4)) := fun m => (HC.out _ ((g4.tr b5).tr (y9.tr (L m)))).2.2.1
    have q3 : ∀ m : Lt w1, m.1.cell? ⟨w3.heap.size, 3, none⟩ = some (.int .i64 r3) := fun m => (HC.out _ ((g4.tr b5).tr (y9.tr (L m)))).2.2.2.1
    have q4 : ∀ m : Lt w1, m.1.cell? ⟨w3.heap.size, 4, none⟩ = some (.int .i64 0) := fun m => (HC.out _ ((g4.tr b5).tr (y9.tr (L m)))).2.2.2.2.1
    have q5 : ∀ m : Lt w1, m.1.cell? ⟨w3.heap.size, 5, none⟩ = some (.int .i64 0) := fun m => (HC.out _ ((g4.tr b5).tr (y9.tr (L m)))).2.2.2.2.2
    have p0 : ∀ m : Lt w1, m.1.cell? ⟨w4.heap.size, 0, none⟩ = some (.int .i64 e4) := fun m => (SA.out _ (b5.tr (y9.tr (L m)))).c0
    have p1 : ∀ m : Lt w1, m.1.cell? ⟨w4.heap.size, 1, none⟩ = some (.int .i64 s4) := fun m => (SA.out _ (b5.tr (y9.tr (L m)))).c1
    repeat (refine Gd.wpX_pure (by first | exact trivial | exact ⟨_, rfl, rfl, rfl⟩) rfl rfl rfl rfl rfl (fun K hK => ?_); go_big_quiet_op; refine hK _ ?_; clear hK K)
    refine Gd.wpX_callFn (args := [.agg #[.string ⟨#[84, 69, 82, 77, 49]⟩, .int .i64 key, .int .i64 (1 + r4), .int .i64 r3, .int .i64 0, .int .i64 0], .slice (some ⟨g, 0, none⟩) 9 c8, .slice (some ⟨g, 9, none⟩) 8 (c8 - 9), .slice (some ⟨g, 17, none⟩) 8 (c8 - 17), .agg #[.int .i64 e4, .int .i64 s4]]) (by first | exact trivial | exact ⟨_, rfl, rfl, rfl⟩) (.tuple #[.int .i64 zr, .bool zb]) rfl rfl rfl rfl (by kernel_rfl) rfl rfl (fun m => HR.out _ (L m)) ?_
    simp only [Act.put, List.setIfInBounds_toArray, List.set_cons_zero, List.set_cons_succ]
    repeat (refine Gd.wpX_pure (by first | exact trivial | exact ⟨_, rfl, rfl, rfl⟩) rfl rfl rfl rfl rfl (fun K hK => ?_); go_big_quiet_op; refine hK _ ?_; clear hK K)
    refine Gd.wpX_end0 (fun m => ?_)
    have L2 : Ext wz m.1 := L m
    obtain ⟨wv2, hwv2⟩ := m
    clear L q0 q1 q2 q3 q4 q5 p0 p1
    go_wp2_with fail
    refine (awake27_any _ (E.ext ((x5'.tr y9).tr L2)).d).mono ?_
    rintro e w11 ⟨rfl, b11⟩
    go_wp2_with fail
    go_ret
    exact ⟨by simp, ((x5'.tr y9).tr L2).tr b11⟩
  · subst hr0
    have hd3 : (1 + r4 == 4) = false := by simpa using hd
    have hd4 := false_ne hd
    have e6 : Ext w5 (w5.alloc (.cells #[] 5)) := (Below.refl _ _).alloc (Nat.le_refl _) _
    have o6 : Own (w5.alloc (.cells #[] 5)) w5.heap.size 5 (.slice (some ⟨w5.heap.size, 0, none⟩) 0 0) (bvs []) := Own.empty _ _ _ _
    go_wp2_with (first
      | (refine appB o6 (i1.ext e6) e6 (by decide) e6.size rfl rfl rfl rfl ?_; intro A6 n6 c6 w6 hn6 o7 (b6 : Ext _ _) g6)
      | (refine appB o7 (i2.ext b6) b6 (by simp [idL]; omega) b6.size rfl rfl rfl rfl ?_; intro A7 n7 c7 w7 hn7 o8 (b7 : Ext _ _) g7)
      | (refine appB o8 (i3.ext b7) b7 (by simp [idL]; omega) b7.size rfl rfl rfl rfl ?_; intro A8 n8 c8 w8 hn8 o9 (b8 : Ext _ _) g8))
    obtain rfl : n8 = 25 := by rw [hn8.out]; simp [idL]; omega
    obtain ⟨g, rfl, hg, hgl, hnc, hcm, poke⟩ := o9.poke (by omega)
    have PK := Lib.hid poke
    generalize ([] ++ idL ++ N ++ Y : List UInt8) = al at *
    clear q0 q1 q2 q3 q4 q5 poke o6 o7 o8 o9 i1 i2 i3 b6 b7 hn6 hn7 hn8 g6 g7 g8
    have bd0 := byteI_lo al j
    have bd1 := byteI_hi al j
    have wi2 : IntKind.i64.wrap ((j : Int)) = (j : Int) := IntWalk.i64_in _ (by omega)
    have zi2 : (0 : Int) ≤ (j : Int) := by omega
    have li2 : (j : Int) < 25 := by omega
    have ti2 : ((j : Int)).toNat = j := by omega
    refine Gd.wp_region_X 13 (by kernel_rfl) (by kernel_rfl) ?_
    simp only [List.take_succ_cons, List.take_zero, List.drop_succ_cons, List.drop_zero]
    intro w1 hw1
    have L : ∀ m : Lt w1, Ext w8 m.1 := fun m => hw1.tr m.2
    have qc : ∀ m : Lt w1, m.1.cell? ⟨g, j, none⟩ = some (.int .u8 (byteI al j)) := fun m => (PK.out _ (L m)).1 j (by omega)
    repeat (refine Gd.wpX_pure (by first | exact trivial | exact ⟨_, rfl, rfl, rfl⟩) rfl rfl rfl rfl rfl (fun K hK => ?_); go_big_quiet_op; refine hK _ ?_; clear hK K)
    refine Gd.wpX_callFn (by first | exact trivial | exact ⟨_, rfl, rfl, rfl⟩) (.int .i64 (j : Int)) rfl rfl rfl rfl (by kernel_rfl) rfl rfl (fun m => (HM5.out m.1).mono fun _ _ ⟨h1, h2⟩ => ⟨h1, h2 ▸ Below.refl _ _⟩) ?_
    simp only [Act.put, List.setIfInBounds_toArray, List.set_cons_zero, List.set_cons_succ]
    repeat (refine Gd.wpX_pure (by first | exact trivial | exact ⟨_, rfl, rfl, rfl⟩) rfl rfl rfl rfl rfl (fun K hK => ?_); go_big_quiet_op; refine hK _ ?_; clear hK K)
    refine Gd.wpX_callFn (by first | exact trivial | exact ⟨_, rfl, rfl, rfl⟩) (.int .i64 r6) rfl rfl rfl rfl (by kernel_rfl) rfl rfl (fun m => (HM6.out m.1).mono fun _ _ ⟨h1, h2⟩ => ⟨h1, h2 ▸ Below.refl _ _⟩) ?_
    simp only [Act.put, List.setIfInBounds_toArray, List.set_cons_zero, List.set_cons_succ]
    repeat (refine Gd.wpX_pure (by first | exact trivial | exact ⟨_, rfl, rfl, rfl⟩) rfl rfl rfl rfl rfl (fun K hK => ?_); go_big_quiet_op; refine hK _ ?_; clear hK K)
    refine Gd.wpX_end0 (fun m => ?_)
    have Lm : Ext w8 m.1 := L m
    obtain ⟨cl, fr, wr⟩ := PK.out _ Lm
    have cl := cl j (by omega)
    have fr := fr j
    have WR := Lib.hid (fun z => wr j z (by omega))
    obtain ⟨wy, hwy⟩ := m
    clear L qc wr
    go_wp2_with fail
    obtain ⟨z0, z1⟩ := bits_u8 .xor (byteI al j) (1 + r6)
    generalize bits BinOp.xor IntKind.u8 (byteI al j) (1 + r6) = z at *
    have RZ := WR.out z z0 z1
    generalize al.set j (u8 z) = am at RZ
    have y9 : Ext w5 (wy.setCell ⟨g, j, none⟩ (.int .u8 z)) := (b8.tr Lm).setCell (p := ⟨g, j, none⟩) hg _
    generalize wy.setCell ⟨g, j, none⟩ (.int .u8 z) = wz at *
    clear WR cl fr PK Lm b8 bd0 bd1 hgl
    have ra := RZ.take 9 (by omega)
    have rb := (RZ.take 17 (by omega)).dropB 9 (by omega)
    have rc := RZ.dropB 17 (by omega)
    have AC : ∀ W, Ext wz W → Calls Tryd.prog 57 [.agg #[.string ⟨#[84, 69, 82, 77, 49]⟩, .int .i64 key, .int .i64 (1 + r4), .int .i64 r3, .int .i64 0, .int .i64 0], .slice (some ⟨g, 0, none⟩) 9 c8, .slice (some ⟨g, 9, none⟩) 8 (c8 - 9), .slice (some ⟨g, 17, none⟩) 8 (c8 - 17), .agg #[.int .i64 e4, .int .i64 s4]].toArray W (RetQ W (.tuple #[.int .i64 (acR key (1 + r4) r3 (List.take 9 am) (List.drop 9 (List.take 17 am)) (List.drop 17 am) e4 s4), .bool (decide (acB key (1 + r4) (List.take 9 am) (List.drop 9 (List.take 17 am)) (List.drop 17 am) e4 s4))])) := fun W h => accept_any ⟨#[84, 69, 82, 77, 49]⟩ key (1 + r4) r3 0 0 e4 s4 W (ra.ext h) (rb.ext h) (rc.ext h) (E.ext ((x5'.tr y9).tr h)).d
    have RC : ∀ W, Ext wz W → Calls Tryd.prog 58 [.agg #[.string ⟨#[84, 69, 82, 77, 49]⟩, .int .i64 key, .int .i64 (1 + r4), .int .i64 r3, .int .i64 0, .int .i64 0], .slice (some ⟨g, 0, none⟩) 9 c8, .slice (some ⟨g, 9, none⟩) 8 (c8 - 9), .slice (some ⟨g, 17, none⟩) 8 (c8 - 17), .agg #[.int .i64 e4, .int .i64 s4]].toArray W (RetQ W (.tuple #[.int .i64 (acR key (1 + r4) r3 (List.take 9 am) (List.drop 9 (List.take 17 am)) (List.drop 17 am) e4 s4), .bool (decide (acB key (1 + r4) (List.take 9 am) (List.drop 9 (List.take 17 am)) (List.drop 17 am) e4 s4))])) := fun W h => refaccept_any ⟨#[84, 69, 82, 77, 49]⟩ key (1 + r4) r3 0 0 e4 s4 W (ra.ext h) (rb.ext h) (rc.ext h) (E.ext ((x5'.tr y9).tr h)).r
    generalize acR key (1 + r4) r3 (List.take 9 am) (List.drop 9 (List.take 17 am)) (List.drop 17 am) e4 s4 = zr at AC RC
    generalize decide (acB key (1 + r4) (List.take 9 am) (List.drop 9 (List.take 17 am)) (List.drop 17 am) e4 s4) = zb at AC RC
    have HA := Lib.hid AC
    have HR := Lib.hid RC
    clear AC RC ra rb rc RZ
    refine Gd.wp_region_X 14 (by kernel_rfl) (by kernel_rfl) ?_
    simp only [List.take_succ_cons, List.take_zero, List.drop_succ_cons, List.drop_zero]
    intro w1 hw1
    have L : ∀ m : Lt w1, Ext wz m.1 := fun m => hw1.tr m.2
    have q0 : ∀ m : Lt w1, m.1.cell? ⟨w3.heap.size, 0, none⟩ = some (.string ⟨#[84, 69, 82, 77, 49]⟩) := fun m => (HC.out _ ((g4.tr b5).tr (y9.tr (L m)))).1
    have q1 : ∀ m : Lt w1, m.1.cell? ⟨w3.heap.size, 1, none⟩ = some (.int .i64 key) := fun m => (HC.out _ ((g4.tr b5).tr (y9.tr (L m)))).2.1
    have q2 : ∀ m : Lt w1, m.1.cell? ⟨w3.heap.size, 2, none⟩ = some (.int .i64 (1 + r4)) := fun m => (HC.out _ ((g4.tr b5).tr (y9.tr (L m)))).2.2.1
    have q3 : ∀ m : Lt w1, m.1.cell? ⟨w3.heap.size, 3, none⟩ = some (.int .i64 r3) := fun m => (HC.out _ ((g4.tr b5).tr (y9.tr (L m)))).2.2.2.1
    have q4 : ∀ m : Lt w1, m.1.cell? ⟨w3.heap.size, 4, none⟩ = some (.int .i64 0) := fun m => (HC.out _ ((g4.tr b5).tr (y9.tr (L m)))).2.2.2.2.1
    have q5 : ∀ m : Lt w1, m.1.cell? ⟨w3.heap.size, 5, none⟩ = some (.int .i64 0) := fun m => (HC.out _ ((g4.tr b5).tr (y9.tr (L m)))).2.2.2.2.2
    have p0 : ∀ m : Lt w1, m.1.cell? ⟨w4.heap.size, 0, none⟩ = some (.int .i64 e4) := fun m => (SA.out _ (b5.tr (y9.tr (L m)))).c0
    have p1 : ∀ m : Lt w1, m.1.cell? ⟨w4.heap.size, 1, none⟩ = some (.int .i64 s4) := fun m => (SA.out _ (b5.tr (y9.tr (L m)))).c1
    repeat (refine Gd.wpX_pure (by first | exact trivial | exact ⟨_, rfl, rfl, rfl⟩) rfl rfl rfl rfl rfl (fun K hK => ?_); go_big_quiet_op; refine hK _ ?_; clear hK K)
    refine Gd.wpX_callFn (args := [.agg #[.string ⟨#[84, 69, 82, 77, 49]⟩, .int .i64 key, .int .i64 (1 + r4), .int .i64 r3, .int .i64 0, .int .i64 0], .slice (some ⟨g, 0, none⟩) 9 c8, .slice (some ⟨g, 9, none⟩) 8 (c8 - 9), .slice (some ⟨g, 17, none⟩) 8 (c8 - 17), .agg #[.int .i64 e4, .int .i64 s4]]) (by first | exact trivial | exact ⟨_, rfl, rfl, rfl⟩) (.tuple #[.int .i64 zr, .bool zb]) rfl rfl rfl rfl (by kernel_rfl) rfl rfl (fun m => HA.out _ (L m)) ?_
    simp only [Act.put, List.setIfInBounds_toArray, List.set_cons_zero, List.set_cons_succ]
    repeat (refine Gd.wpX_pure (by first | exact trivial | exact ⟨_, rfl, rfl, rfl⟩) rfl rfl rfl rfl rfl (fun K hK => ?_); go_big_quiet_op; refine hK _ ?_; clear hK K)
    refine Gd.wpX_end0 (fun m => ?_)
    have L1 : Ext wz m.1 := L m
    obtain ⟨wv1, hwv1⟩ := m
    clear L q0 q1 q2 q3 q4 q5 p0 p1
    go_wp2_with fail
    refine Gd.wp_region_X 14 (by kernel_rfl) (by kernel_rfl) ?_
    simp only [List.take_succ_cons, List.take_zero, List.drop_succ_cons, List.drop_zero]
    intro w1 hw1
    have L : ∀ m : Lt w1, Ext wz m.1 := fun m => L1.tr (hw1.tr m.2)
    have q0 : ∀ m : Lt w1, m.1.cell? ⟨w3.heap.size, 0, none⟩ = some (.string ⟨#[84, 69, 82, 77, 49]⟩) := fun m => (HC.out _ ((g4.tr b5).tr (y9.tr (L m)))).1
    have q1 : ∀ m : Lt w1, m.1.cell? ⟨w3.heap.size, 1, none⟩ = some (.int .i64 key) := fun m => (HC.out _ ((g4.tr b5).tr (y9.tr (L m)))).2.1
    have q2 : ∀ m : Lt w1, m.1.cell? ⟨w3.heap.size, 2, none⟩ = some (.int .i64 (1 + r4)) := fun m => (HC.out _ ((g4.tr b5).tr (y9.tr (L m)))).2.2.1
    have q3 : ∀ m : Lt w1, m.1.cell? ⟨w3.heap.size, 3, none⟩ = some (.int .i64 r3) := fun m => (HC.out _ ((g4.tr b5).tr (y9.tr (L m)))).2.2.2.1
    have q4 : ∀ m : Lt w1, m.1.cell? ⟨w3.heap.size, 4, none⟩ = some (.int .i64 0) := fun m => (HC.out _ ((g4.tr b5).tr (y9.tr (L m)))).2.2.2.2.1
    have q5 : ∀ m : Lt w1, m.1.cell? ⟨w3.heap.size, 5, none⟩ = some (.int .i64 0) := fun m => (HC.out _ ((g4.tr b5).tr (y9.tr (L m)))).2.2.2.2.2
    have p0 : ∀ m : Lt w1, m.1.cell? ⟨w4.heap.size, 0, none⟩ = some (.int .i64 e4) := fun m => (SA.out _ (b5.tr (y9.tr (L m)))).c0
    have p1 : ∀ m : Lt w1, m.1.cell? ⟨w4.heap.size, 1, none⟩ = some (.int .i64 s4) := fun m => (SA.out _ (b5.tr (y9.tr (L m)))).c1
    repeat (refine Gd.wpX_pure (by first | exact trivial | exact ⟨_, rfl, rfl, rfl⟩) rfl rfl rfl rfl rfl (fun K hK => ?_); go_big_quiet_op; refine hK _ ?_; clear hK K)
    refine Gd.wpX_callFn (args := [.agg #[.string ⟨#[84, 69, 82, 77, 49]⟩, .int .i64 key, .int .i64 (1 + r4), .int .i64 r3, .int .i64 0, .int .i64 0], .slice (some ⟨g, 0, none⟩) 9 c8, .slice (some ⟨g, 9, none⟩) 8 (c8 - 9), .slice (some ⟨g, 17, none⟩) 8 (c8 - 17), .agg #[.int .i64 e4, .int .i64 s4]]) (by first | exact trivial | exact ⟨_, rfl, rfl, rfl⟩) (.tuple #[.int .i64 zr, .bool zb]) rfl rfl rfl rfl (by kernel_rfl) rfl rfl (fun m => HR.out _ (L m)) ?_
    simp only [Act.put, List.setIfInBounds_toArray, List.set_cons_zero, List.set_cons_succ]
    repeat (refine Gd.wpX_pure (by first | exact trivial | exact ⟨_, rfl, rfl, rfl⟩) rfl rfl rfl rfl rfl (fun K hK => ?_); go_big_quiet_op; refine hK _ ?_; clear hK K)
    refine Gd.wpX_end0 (fun m => ?_)
    have L2 : Ext wz m.1 := L m
    obtain ⟨wv2, hwv2⟩ := m
    clear L q0 q1 q2 q3 q4 q5 p0 p1
    go_wp2_with fail
    refine (awake27_any _ (E.ext ((x5'.tr y9).tr L2)).d).mono ?_
    rintro e w11 ⟨rfl, b11⟩
    go_wp2_with fail
    go_ret
    exact ⟨by simp, ((x5'.tr y9).tr L2).tr b11⟩
end Go.Proofs.YteihfboomegpkaaDoor
