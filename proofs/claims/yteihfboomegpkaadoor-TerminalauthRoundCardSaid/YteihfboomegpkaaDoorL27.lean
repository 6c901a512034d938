/- The walks of the laws 27: TerminalauthMessages, TerminalauthProves, TerminalauthAccepts. -/
import Derived.Test.YteihfboomegpkaaDoorTc
import Derived.Laws.IdiomStrings
namespace Go.Proofs.YteihfboomegpkaaDoor
open Go.RowKit
set_option linter.unusedVariables false
set_option maxRecDepth 100000

theorem run_strB {w : World} {A : Option Addr} {n c : Nat} {l : List UInt8} (h : Rd w (.slice A n c) (bvs l)) : (convert 22 9 (.slice A n c)).run Tryd.prog w = .ok (.string ⟨l.toArray⟩) w := by
  obtain ⟨A', n', c', e, hn, hnc, hcm, hc⟩ := h
  injection e with e1 e2 e3
  subst e1 e2 e3
  rw [bvs_length] at hn
  by_cases h0 : n = 0
  · subst h0
    obtain rfl : l = [] := List.eq_nil_of_length_eq_zero hn.symm
    rw [run_convert_bytes_string w 22 9 5 _ 0 c Tryd.underlying22 Tryd.underlying5 Tryd.underlying9]
    cases A <;> simp [Conv.bytesToString, loadCells]
    all_goals rfl
  · obtain ⟨b, o, rfl, hcell⟩ := hc (by omega)
    subst hn
    refine run_convert_bytes_back w 22 9 5 ⟨b, o, none⟩ c l Tryd.underlying22 Tryd.underlying5 Tryd.underlying9 fun j hj => ?_
    rw [Addr.add_lit]
    exact hcell j _ (by simp [bvs, hj, bv])
theorem light_any {a b c : Value} {x y z : List UInt8} (w : World) (ha : Rd w a (bvs x)) (hb : Rd w b (bvs y)) (hc : Rd w c (bvs z)) (hx : x.length ≤ 140737488351232) (hy : y.length ≤ 140737488351232) (hz : z.length ≤ 140737488351232) :
    Calls Tryd.prog 51 #[a, b, c] w (RetQ w (.bool (decide (x.length + y.length + z.length ≤ 300)))) := by
  obtain ⟨A, na, ca, rfl, hna, hnac, hcam, hA⟩ := ha.bytes
  obtain ⟨B, nb, cb, rfl, hnb, hnbc, hcbm, hB⟩ := hb.bytes
  obtain ⟨C, nc, cc, rfl, hnc, hncc, hccm, hC⟩ := hc.bytes
  subst hna hnb hnc
  clear hA hB hC ha hb hc
  have H := Lib.hid (show decide ((x.length : Int) + (y.length : Int) + (z.length : Int) ≤ 300) = decide (x.length + y.length + z.length ≤ 300) by exact decide_eq_decide.2 (by omega))
  go_enter Tryd.func51, Tryd.ntmps51
  go_wp2
  go_ret
  exact ⟨by rw [H.out]; rfl, Below.refl _ _⟩
set_option maxHeartbeats 2000000 in
theorem messages_any {a b c : Value} {x y z : List UInt8} (w : World) (ha : Rd w a (bvs x)) (hb : Rd w b (bvs y)) (hc : Rd w c (bvs z)) (hx : x.length ≤ 140737488351232) (hy : y.length ≤ 140737488351232) (hz : z.length ≤ 140737488351232) (E : KTab w 0) :
    Calls Tryd.prog 17 #[a, b, c] w (RetQ w (.bool true)) := by
  go_enter Tryd.func17, Tryd.ntmps17
  go_wp2_with fail
  refine (light_any w ha hb hc hx hy hz).mono ?_
  rintro e w1 ⟨rfl, b1⟩
  by_cases hq : x.length + y.length + z.length ≤ 300
  · rw [decide_eq_true hq]
    go_wp2_with fail
    refine (message_any _ (ha.ext b1) (hb.ext b1) (hc.ext b1)).mono ?_
    rintro e w2 ⟨A1, n1, c1, rfl, hn1, r1, b2⟩
    have x2 := b1.tr b2
    go_wp2_with fail
    refine (refmessage_any _ (ha.ext x2) (hb.ext x2) (hc.ext x2)).mono ?_
    rintro e w3 ⟨A2, n2, c2, rfl, hn2, r2, b3⟩
    have x3 := x2.tr b3
    go_wp2_with fail
    refine (awake27_any _ (E.below x3)).mono ?_
    rintro e w4 ⟨rfl, b4⟩
    have s1 := run_strB (r1.ext (b3.tr b4))
    have s2 := run_strB (r2.ext b4)
    go_wp2_with fail
    go_ret
    exact ⟨rfl, x3.tr b4⟩
  · rw [decide_eq_false hq]
    go_wp2_with fail
    refine (awake27_any _ (E.below b1)).mono ?_
    rintro e w4 ⟨rfl, b4⟩
    go_wp2_with fail
    go_ret
    exact ⟨rfl, b1.tr b4⟩
set_option maxHeartbeats 2000000 in
theorem proves_any {a b c : Value} {x y z : List UInt8} (k : Int) (w : World) (ha : Rd w a (bvs x)) (hb : Rd w b (bvs y)) (hc : Rd w c (bvs z)) (hx : x.length ≤ 140737488351232) (hy : y.length ≤ 140737488351232) (hz : z.length ≤ 140737488351232) (E : Env w) :
    Calls Tryd.prog 18 #[.int .i64 k, a, b, c] w (RetQ w (.bool true)) := by
  go_enter Tryd.func18, Tryd.ntmps18
  go_wp2_with fail
  refine (light_any w ha hb hc hx hy hz).mono ?_
  rintro e w1 ⟨rfl, b1⟩
  by_cases hq : x.length + y.length + z.length ≤ 300
  · rw [decide_eq_true hq]
    go_wp2_with fail
    refine (prove_any _ _ (ha.ext b1) (hb.ext b1) (hc.ext b1) (E.ext b1).d).mono ?_
    rintro e w2 ⟨rfl, b2⟩
    unfold sgV
    obtain ⟨wa, hwa, sa⟩ := sg_alloc w2 (pvE k x y z) (pvS k x y z)
    go_wp2_with fail
    rw [← hwa]
    clear hwa
    have x2 := (b1.tr b2).tr sa.ext
    refine (refprove_any _ _ (ha.ext x2) (hb.ext x2) (hc.ext x2) (E.ext x2).r).mono ?_
    rintro e w3 ⟨rfl, b3⟩
    unfold sgV
    obtain ⟨wb, hwb, sb⟩ := sg_alloc w3 (pvE k x y z) (pvS k x y z)
    go_wp2_with fail
    rw [← hwb]
    clear hwb
    have x3 := (x2.tr b3).tr sb.ext
    refine (awake27_any _ (E.ext x3).d).mono ?_
    rintro e w4 ⟨rfl, b4⟩
    have ta := sa.keep ((b3.tr sb.ext).tr b4)
    have tb := sb.keep b4
    have q0 := ta.c0
    have q1 := ta.c1
    have q2 := tb.c0
    have q3 := tb.c1
    go_wp2_with fail
    go_ret
    exact ⟨rfl, x3.tr b4⟩
  · rw [decide_eq_false hq]
    go_wp2_with fail
    refine (awake27_any _ (E.ext b1).d).mono ?_
    rintro e w4 ⟨rfl, b4⟩
    go_wp2_with fail
    go_ret
    exact ⟨rfl, b1.tr b4⟩
set_option maxHeartbeats 2000000 in
theorem accepts_any {a b c : Value} {x y z : List UInt8} (h : ByteArray) (key role rights fr to e s : Int) (w : World) (ha : Rd w a (bvs x)) (hb : Rd w b (bvs y)) (hc : Rd w c (bvs z)) (hx : x.length ≤ 140737488351232) (hy : y.length ≤ 140737488351232) (hz : z.length ≤ 140737488351232) (E : Env w) :
    Calls Tryd.prog 19 #[chainV h key role rights fr to, a, b, c, .agg #[.int .i64 e, .int .i64 s]] w (RetQ w (.bool true)) := by
  obtain ⟨wz, hwz⟩ : ∃ wz, wz = (w.alloc (.cells #[.string h, .int .i64 key, .int .i64 role, .int .i64 rights, .int .i64 fr, .int .i64 to] 65)).alloc (.cells #[.int .i64 e, .int .i64 s] 47) := ⟨_, rfl⟩
  have x0 : Ext w wz := by rw [hwz]; exact ((Below.refl _ _).alloc (Nat.le_refl _) _).alloc (by simp) _
  have CC : ∀ W, Ext wz W → (W.cell? ⟨w.heap.size, 0, none⟩ = some (.string h) ∧ W.cell? ⟨w.heap.size, 1, none⟩ = some (.int .i64 key) ∧ W.cell? ⟨w.heap.size, 2, none⟩ = some (.int .i64 role) ∧ W.cell? ⟨w.heap.size, 3, none⟩ = some (.int .i64 rights) ∧ W.cell? ⟨w.heap.size, 4, none⟩ = some (.int .i64 fr) ∧ W.cell? ⟨w.heap.size, 5, none⟩ = some (.int .i64 to)) ∧ W.cell? ⟨w.heap.size + 1, 0, none⟩ = some (.int .i64 e) ∧ W.cell? ⟨w.heap.size + 1, 1, none⟩ = some (.int .i64 s) := fun W hW => by
    have l1 : w.heap.size < wz.heap.size := by rw [hwz]; simp; omega
    have l2 : w.heap.size + 1 < wz.heap.size := by rw [hwz]; simp
    exact ⟨⟨(hW.cell (p := ⟨w.heap.size, 0, none⟩) l1).trans (by rw [hwz]; go_simp), (hW.cell (p := ⟨w.heap.size, 1, none⟩) l1).trans (by rw [hwz]; go_simp), (hW.cell (p := ⟨w.heap.size, 2, none⟩) l1).trans (by rw [hwz]; go_simp), (hW.cell (p := ⟨w.heap.size, 3, none⟩) l1).trans (by rw [hwz]; go_simp), (hW.cell (p := ⟨w.heap.size, 4, none⟩) l1).trans (by rw [hwz]; go_simp), (hW.cell (p := ⟨w.heap.size, 5, none⟩) l1).trans (by rw [hwz]; go_simp)⟩,
      (hW.cell (p := ⟨w.heap.size + 1, 0, none⟩) l2).trans (by rw [hwz]; go_simp), (hW.cell (p := ⟨w.heap.size + 1, 1, none⟩) l2).trans (by rw [hwz]; go_simp)⟩
  have HC := Lib.hid CC
  clear CC
  unfold chainV
  go_enter Tryd.func19, Tryd.ntmps19
  go_wp2_with fail
  rw [← hwz]
  clear hwz
  refine (light_any _ (ha.ext x0) (hb.ext x0) (hc.ext x0) hx hy hz).mono ?_
  rintro e w1 ⟨rfl, b1⟩
  have x1 := x0.tr b1
  by_cases hq : x.length + y.length + z.length ≤ 300
  · rw [decide_eq_true hq]
    obtain ⟨⟨q0, q1, q2, q3, q4, q5⟩, p0, p1⟩ := HC.out _ b1
    go_wp2_with fail
    refine (accept_any _ _ _ _ _ _ _ _ _ (ha.ext x1) (hb.ext x1) (hc.ext x1) (E.ext x1).d).mono ?_
    rintro e w2 ⟨rfl, b2⟩
    have x2 := x1.tr b2
    clear q0 q1 q2 q3 q4 q5 p0 p1
    obtain ⟨⟨q0, q1, q2, q3, q4, q5⟩, p0, p1⟩ := HC.out _ (b1.tr b2)
    go_wp2_with fail
    refine (refaccept_any _ _ _ _ _ _ _ _ _ (ha.ext x2) (hb.ext x2) (hc.ext x2) (E.ext x2).r).mono ?_
    rintro e w3 ⟨rfl, b3⟩
    have x3 := x2.tr b3
    go_wp2_with fail
    refine (awake27_any _ (E.ext x3).d).mono ?_
    rintro e w4 ⟨rfl, b4⟩
    go_wp2_with fail
    go_ret
    exact ⟨by simp, x3.tr b4⟩
  · rw [decide_eq_false hq]
    go_wp2_with fail
    refine (awake27_any _ (E.ext x1).d).mono ?_
    rintro e w4 ⟨rfl, b4⟩
    go_wp2_with fail
    go_ret
    exact ⟨rfl, x1.tr b4⟩
end Go.Proofs.YteihfboomegpkaaDoor
