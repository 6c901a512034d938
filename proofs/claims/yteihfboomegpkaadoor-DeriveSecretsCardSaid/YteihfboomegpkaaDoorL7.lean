/- The walks of the laws 07. -/
import Derived.Test.YteihfboomegpkaaDoorDk
namespace Go.Proofs.YteihfboomegpkaaDoor
open Go.RowKit
set_option linter.unusedVariables false
set_option maxRecDepth 100000

set_option maxHeartbeats 400000 in
theorem keys_any {b : Value} {l : List UInt8} (z : Int) (w : World) (hb : Rd w b (bvs l)) (hl : l.length ≤ 140737488351232) (E : Env w) :
    Calls Tryd.prog 10 #[b, .int .i64 z] w (RetQ w (.bool true)) := by
  by_cases hz : 0 ≤ z ∧ z ≤ 65535
  · go_enter Tryd.func10, Tryd.ntmps10
    go_wp2_with (first
      | (go_at_call 35; refine (key_any z _ hb (by omega) hz.1 hz.2 E.d).mono ?_; rintro e w1 ⟨A1, n1, c1, rfl, hn1, r1, b1⟩)
      | (go_at_call 36; refine (refkey_any z _ (hb.ext b1) (by omega) hz.1 hz.2 (E.ext b1)).mono ?_; rintro e w2 ⟨A2, n2, c2, rfl, hn2, r2, b2⟩)
      | (go_at_call 34; refine (awake7_any _ (E.ext (b1.tr b2)).d).mono ?_; rintro e w3 ⟨rfl, b3⟩)
      | (go_at_call 22; refine (same_any _ (r1.ext (b2.tr b3)) (r2.ext b3)).mono ?_; rw [decide_eq_true rfl]; rintro e w4 ⟨rfl, b4⟩))
    go_ret
    exact ⟨rfl, ((b1.tr b2).tr b3).tr b4⟩
  · go_enter Tryd.func10, Tryd.ntmps10
    go_wp2_with (first
      | (go_at_call 35; refine (key_bad _ z _ hz).mono ?_; rintro e w1 ⟨rfl, b1⟩)
      | (go_at_call 36; refine (refkey_bad _ z _ hz).mono ?_; rintro e w2 ⟨rfl, b2⟩)
      | (go_at_call 34; refine (awake7_any _ (E.ext (b1.tr b2)).d).mono ?_; rintro e w3 ⟨rfl, b3⟩)
      | (go_at_call 22; refine (same_any (xs := []) (ys := []) _ (Rd.nil_ _) (Rd.nil_ _)).mono ?_; rw [decide_eq_true rfl]; rintro e w4 ⟨rfl, b4⟩))
    go_ret
    exact ⟨rfl, ((b1.tr b2).tr b3).tr b4⟩
set_option maxHeartbeats 400000 in
theorem draws_any {b : Value} {l : List UInt8} (z : Int) (w : World) (hb : Rd w b (bvs l)) (hl : l.length ≤ 140737488351232) (E : Env w) :
    Calls Tryd.prog 8 #[b, .int .i64 z] w (RetQ w (.bool true)) := by
  by_cases hz : 0 ≤ z ∧ z ≤ 1024
  · go_enter Tryd.func8, Tryd.ntmps8
    go_wp2_with fail
    refine (draw_any z _ hb (by omega) hz.1 hz.2 E.d).mono ?_
    rintro e w1 ⟨A1, n1, c1, A2, n2, c2, rfl, hn1, hn2, r1, r2, b1⟩
    go_wp2_with fail
    refine (refdraw_any z _ (hb.ext b1) (by omega) hz.1 hz.2 (E.ext b1)).mono ?_
    rintro e w2 ⟨A3, n3, c3, A4, n4, c4, rfl, hn3, hn4, r3, r4, b2⟩
    go_wp2_with fail
    refine (awake7_any _ (E.ext (b1.tr b2)).d).mono ?_
    rintro e w3 ⟨rfl, b3⟩
    go_wp2_with fail
    refine (same_any _ (r1.ext (b2.tr b3)) (r3.ext b3)).mono ?_
    rw [decide_eq_true rfl]
    rintro e w4 ⟨rfl, b4⟩
    go_wp2_with fail
    refine (same_any _ (r2.ext ((b2.tr b3).tr b4)) (r4.ext (b3.tr b4))).mono ?_
    rw [decide_eq_true rfl]
    rintro e w5 ⟨rfl, b5⟩
    go_wp2_with fail
    go_ret
    exact ⟨rfl, (((b1.tr b2).tr b3).tr b4).tr b5⟩
  · go_enter Tryd.func8, Tryd.ntmps8
    go_wp2_with fail
    refine (draw_bad _ z _ hz).mono ?_
    rintro e w1 ⟨rfl, b1⟩
    go_wp2_with fail
    refine (refdraw_bad _ z _ hz).mono ?_
    rintro e w2 ⟨rfl, b2⟩
    go_wp2_with fail
    refine (awake7_any _ (E.ext (b1.tr b2)).d).mono ?_
    rintro e w3 ⟨rfl, b3⟩
    go_wp2_with fail
    refine (same_any (xs := []) (ys := []) _ (Rd.nil_ _) (Rd.nil_ _)).mono ?_
    rw [decide_eq_true rfl]
    rintro e w4 ⟨rfl, b4⟩
    go_wp2_with fail
    refine (same_any (xs := []) (ys := []) _ (Rd.nil_ _) (Rd.nil_ _)).mono ?_
    rw [decide_eq_true rfl]
    rintro e w5 ⟨rfl, b5⟩
    go_wp2_with fail
    go_ret
    exact ⟨rfl, (((b1.tr b2).tr b3).tr b4).tr b5⟩
set_option maxHeartbeats 400000 in
theorem secrets_any {b : Value} {l : List UInt8} (w : World) (hb : Rd w b (bvs l)) (hl : l.length ≤ 140737488351232) (E : Env w) :
    Calls Tryd.prog 11 #[b] w (RetQ w (.bool true)) := by
  obtain ⟨q1, q2⟩ := secOf_bd l
  go_enter Tryd.func11, Tryd.ntmps11
  go_wp2_with (first
    | (go_at_call 37; refine (secret_any _ hb (by omega) E.d).mono ?_; rintro e w1 ⟨A1, n1, c1, rfl, hn1, r1, b1⟩)
    | (go_at_call 38; refine (refsecret_any _ (hb.ext b1) (by omega) (E.ext b1)).mono ?_; rintro e w2 ⟨A2, n2, c2, rfl, hn2, r2, b2⟩)
    | (go_at_call 34; refine (awake7_any _ (E.ext (b1.tr b2)).d).mono ?_; rintro e w3 ⟨rfl, b3⟩)
    | (go_at_call 22; refine (same_any _ (r1.ext (b2.tr b3)) (r2.ext b3)).mono ?_; rw [decide_eq_true rfl]; rintro e w4 ⟨rfl, b4⟩))
  go_ret
  exact ⟨rfl, ((b1.tr b2).tr b3).tr b4⟩
set_option maxHeartbeats 400000 in
theorem begins_any {b : Value} {l : List UInt8} (x y : Int) (w : World) (hx0 : 0 ≤ x) (hx1 : x < 256) (hy0 : 0 ≤ y) (hy1 : y < 256) (hb : Rd w b (bvs l)) (hl : l.length ≤ 140737488351232) (E : KTab w 0) :
    Calls Tryd.prog 9 #[b, .int .u8 x, .int .u8 y] w (RetQ w (.bool true)) := by
  go_enter Tryd.func9, Tryd.ntmps9
  go_wp2_with fail
  refine (draw_any x _ hb (by omega) (by omega) (by omega) E).mono ?_
  rintro e w1 ⟨A1, n1, c1, A2, n2, c2, rfl, hn1, hn2, r1, r2, b1⟩
  have d1 : ((n1 : Int) == x) = true := by rw [hn1.out, draws_length]; simp; omega
  go_wp2_with fail
  refine (draw_any (x + y) _ (hb.ext b1) (by omega) (by omega) (by omega) (E.below b1)).mono ?_
  rintro e w2 ⟨A3, n3, c3, A4, n4, c4, rfl, hn3, hn4, r3, r4, b2⟩
  have d3 : ((n3 : Int) == x + y) = true := by rw [hn3.out, draws_length]; simp; omega
  have hc3 := r3.caps
  have hxc : x ≤ (c3 : Int) := by have := hn3.out; rw [draws_length] at this; omega
  have hxn : x ≤ (n3 : Int) := by have := hn3.out; rw [draws_length] at this; omega
  have hcut : Rd w2 (.slice A3 x.toNat c3) (bvs (draws l x.toNat)) := by
    have := r3.take x.toNat (by omega)
    rwa [draws_take l (by omega)] at this
  clear hc3
  go_wp2_with fail
  refine (awake7_any _ (E.below (b1.tr b2))).mono ?_
  rintro e w3 ⟨rfl, b3⟩
  go_wp2_with fail
  refine (same_any _ (r1.ext (b2.tr b3)) (hcut.ext b3)).mono ?_
  rw [decide_eq_true rfl]
  rintro e w4 ⟨rfl, b4⟩
  go_wp2_with fail
  refine (same_any _ (r2.ext ((b2.tr b3).tr b4)) (r4.ext (b3.tr b4))).mono ?_
  rw [decide_eq_true rfl]
  rintro e w5 ⟨rfl, b5⟩
  go_wp2_with fail
  go_ret
  exact ⟨rfl, (((b1.tr b2).tr b3).tr b4).tr b5⟩
end Go.Proofs.YteihfboomegpkaaDoor
