/- Layer 7: Key, Secret, and the walks of the laws 07. -/
import Derived.Test.YteihfboomegpkaaDoorDr
namespace Go.Proofs.YteihfboomegpkaaDoor
open Go.RowKit
set_option linter.unusedVariables false
set_option maxRecDepth 100000

/-- A call that returns bytes and a number. -/
def RetRE (w : World) (l : List UInt8) (k : Int) (e : Ending) (w' : World) : Prop :=
  ∃ A n c, e = .returned (.tuple #[.slice A n c, .int .i64 k]) ∧ Hid (n = l.length) ∧ Rd w' (.slice A n c) (bvs l) ∧ Ext w w'
/-- A call that returns a number and bytes. -/
def RetNR (w : World) (k : Int) (l : List UInt8) (e : Ending) (w' : World) : Prop :=
  ∃ A n c, e = .returned (.tuple #[.int .i64 k, .slice A n c]) ∧ Hid (n = l.length) ∧ Rd w' (.slice A n c) (bvs l) ∧ Ext w w'
def keyOf (l : List UInt8) (z : Int) : List UInt8 := (sha (l ++ be4 z)).take 16
theorem keyOf_length (l : List UInt8) (z : Int) : (keyOf l z).length = 16 := by unfold keyOf; rw [List.length_take, sha_length]; rfl
def secOf (l : List UInt8) : Int := 1 + num ((draws l 8).take 7) % 1073741788
theorem secOf_bd (l : List UInt8) : 1 ≤ secOf l ∧ secOf l < 1073741789 := by unfold secOf; omega

theorem key_any {a : Value} {l : List UInt8} (z : Int) (w : World) (ha : Rd w a (bvs l)) (hl : l.length ≤ 140737488352000) (h0 : 0 ≤ z) (h1 : z ≤ 65535) (E : KTab w 0) :
    Calls Tryd.prog 35 #[a, .int .i64 z] w (RetRE w (keyOf l z) 0) := by
  have ha0 := ha
  obtain ⟨A, n1, c, rfl, hn1, hnc, hcm, hA⟩ := ha.bytes
  subst hn1
  clear hA ha
  go_enter Tryd.func35, Tryd.ntmps35
  go_wp2_with (first
    | (go_at_call 70; refine (oct4_any _ _ (by omega) (by omega)).mono ?_; rintro e w3 ⟨A3, n3, c3, rfl, hn3, o3, b3⟩)
    | (go_at_call 71; refine (with_any _ (ha0.ext b3) o3.rd (by simp [be4]; omega) (E.below b3)).mono ?_; rintro e w5 ⟨A5, n5, c5, rfl, hn5, o5, b5⟩; obtain rfl : n5 = 32 := (by rw [hn5.out, sha_length]); have hc5 := o5.rd.caps; have h16 : 16 ≤ c5 := (by omega); clear hc5))
  go_ret2
  exact ⟨_, _, _, rfl, (show _ = _ by rw [keyOf_length]), o5.rd.cap3 _ _ (by omega) (Nat.le_refl _) (by omega), b3.tr b5⟩
theorem key_bad (a : Value) (z : Int) (w : World) (h : ¬ (0 ≤ z ∧ z ≤ 65535)) :
    Calls Tryd.prog 35 #[a, .int .i64 z] w (RetQ w (.tuple #[.slice none 0 0, .int .i64 3])) := by
  by_cases hz : z < 0
  · clear h
    go_enter Tryd.func35, Tryd.ntmps35
    go_wp2
    go_ret2
    exact ⟨rfl, Below.refl _ _⟩
  · have hz2 : 65535 < z := by omega
    have hz3 : 0 ≤ z := by omega
    clear h hz
    go_enter Tryd.func35, Tryd.ntmps35
    go_wp2
    go_ret2
    exact ⟨rfl, Below.refl _ _⟩
theorem refkey_any {a : Value} {l : List UInt8} (z : Int) (w : World) (ha : Rd w a (bvs l)) (hl : l.length ≤ 140737488352000) (h0 : 0 ≤ z) (h1 : z ≤ 65535) (E : Env w) :
    Calls Tryd.prog 36 #[a, .int .i64 z] w (RetRE w (keyOf l z) 0) := by
  have ha0 := ha
  obtain ⟨A, n1, c, rfl, hn1, hnc, hcm, hA⟩ := ha.bytes
  subst hn1
  clear hA ha
  go_enter Tryd.func36, Tryd.ntmps36
  go_wp2_with (first
    | (go_at_call 73; refine (four_any _ _).mono ?_; rintro e w3 ⟨A3, n3, c3, rfl, hn3, o3, b3⟩)
    | (go_at_call 72; refine (join_any _ (ha0.ext b3) o3.rd (by simp [be4]; omega)).mono ?_; rintro e w4 ⟨A4, n4, c4, rfl, hn4, o4, b4⟩)
    | (go_at_call 29; refine (refsum_any _ o4.rd (by simp [be4]; omega) (E.ext (b3.tr b4)).r).mono ?_; rintro e w5 ⟨A5, n5, c5, rfl, hn5, o5, b5⟩; obtain rfl : n5 = 32 := (by rw [hn5.out, sha_length]); have hc5 := o5.rd.caps; have h16 : 16 ≤ c5 := (by omega); clear hc5))
  go_ret2
  exact ⟨_, _, _, rfl, (show _ = _ by rw [keyOf_length]), o5.rd.cap3 _ _ (by omega) (by omega) (Nat.le_refl _), (b3.tr b4).tr b5⟩
theorem refkey_bad (a : Value) (z : Int) (w : World) (h : ¬ (0 ≤ z ∧ z ≤ 65535)) :
    Calls Tryd.prog 36 #[a, .int .i64 z] w (RetQ w (.tuple #[.slice none 0 0, .int .i64 3])) := by
  by_cases hz : z < 0
  · clear h
    go_enter Tryd.func36, Tryd.ntmps36
    go_wp2
    go_ret2
    exact ⟨rfl, Below.refl _ _⟩
  · have hz2 : 65535 < z := by omega
    have hz3 : 0 ≤ z := by omega
    clear h hz
    go_enter Tryd.func36, Tryd.ntmps36
    go_wp2
    go_ret2
    exact ⟨rfl, Below.refl _ _⟩

theorem refnum7_any {b : Value} {l : List UInt8} (m : Int) (w : World) (hb : Rd w b (bvs l)) (h7 : 7 ≤ l.length) (hm : 1 ≤ m) :
    Calls Tryd.prog 75 #[b, .int .i64 m] w fun e w' => e = .returned (.int .i64 (num (l.take 7) % m)) ∧ w = w' := by
  have hb0 := hb
  obtain ⟨A, n, c, rfl, hn, hnc, hcm, hA⟩ := hb.bytes
  subst hn
  unfold maxLen at hcm
  clear hA hb
  have h7c : 7 ≤ c := by omega
  have q1 := (num_bd7 (l := l.take 7) (by rw [List.length_take]; omega)).1
  have q2 := (num_bd7 (l := l.take 7) (by rw [List.length_take]; omega)).2
  go_enter Tryd.func75, Tryd.ntmps75
  go_wp2_with (go_at_call 87; refine (refnumber_any _ (hb0.take 7 h7) (by rw [List.length_take]; omega)).mono ?_; rintro e w' ⟨rfl, rfl⟩)
  go_ret
  exact ⟨rfl, rfl⟩

theorem secret_any {a : Value} {l : List UInt8} (w : World) (ha : Rd w a (bvs l)) (hl : l.length ≤ 140737488352000) (E : KTab w 0) :
    Calls Tryd.prog 37 #[a] w (RetNR w (secOf l) (nextSeed l)) := by
  have q1 := (num_bd7 (l := (draws l 8).take 7) (by rw [List.length_take]; omega)).1
  have q2 := (num_bd7 (l := (draws l 8).take 7) (by rw [List.length_take]; omega)).2
  go_enter Tryd.func37, Tryd.ntmps37
  go_wp2_with (first
    | (go_at_call 32; refine (draw_any 8 _ ha hl (by omega) (by omega) E).mono ?_; rintro e w3 ⟨A3, n3, c3, A4, n4, c4, rfl, hn3, hn4, r3, r4, b3⟩; obtain rfl : n3 = 8 := (by rw [hn3.out, draws_length]; rfl); have hc3 := r3.caps; have h7 : 7 ≤ c3 := (by omega); clear hc3)
    | (go_at_call 74; refine (number_any _ (r3.take 7 (by omega)) (by rw [List.length_take]; omega)).mono ?_; rintro e w5 ⟨rfl, rfl⟩))
  go_ret2
  exact ⟨_, _, _, rfl, hn4, r4, b3⟩
theorem refsecret_any {a : Value} {l : List UInt8} (w : World) (ha : Rd w a (bvs l)) (hl : l.length ≤ 140737488352000) (E : Env w) :
    Calls Tryd.prog 38 #[a] w (RetNR w (secOf l) (nextSeed l)) := by
  have q1 := (num_bd7 (l := (draws l 8).take 7) (by rw [List.length_take]; omega)).1
  have q2 := (num_bd7 (l := (draws l 8).take 7) (by rw [List.length_take]; omega)).2
  go_enter Tryd.func38, Tryd.ntmps38
  go_wp2_with (first
    | (go_at_call 33; refine (refdraw_any 8 _ ha hl (by omega) (by omega) E).mono ?_; rintro e w3 ⟨A3, n3, c3, A4, n4, c4, rfl, hn3, hn4, r3, r4, b3⟩; obtain rfl : n3 = 8 := (by rw [hn3.out, draws_length]; rfl))
    | (go_at_call 75; refine (refnum7_any _ _ r3 (by rw [draws_length]; decide) (by omega)).mono ?_; rintro e w5 ⟨rfl, rfl⟩))
  go_ret2
  exact ⟨_, _, _, rfl, hn4, r4, b3⟩

theorem awake7_any (w : World) (E : KTab w 0) : Calls Tryd.prog 34 #[] w (RetQ w (.bool true)) := by
  have e0 : Ext w (w.alloc (.cells #[.int .u8 1] 5)) := (Below.refl _ _).alloc (Nat.le_refl _) _
  go_enter Tryd.func34, Tryd.ntmps34
  go_wp2_with (go_at_call 32; refine (draw_any (l := [1]) 40 _ (Own.oneC w 1 1 rfl).rd (by simp) (by omega) (by omega) (E.below e0)).mono ?_; rintro e w3 ⟨A3, n3, c3, A4, n4, c4, rfl, hn3, hn4, r3, r4, b3⟩; obtain rfl : n3 = 40 := (by rw [hn3.out, draws_length]; rfl); obtain rfl : n4 = 32 := (by rw [hn4.out]; exact sha_length _))
  go_ret
  exact ⟨rfl, e0.tr b3⟩
end Go.Proofs.YteihfboomegpkaaDoor
