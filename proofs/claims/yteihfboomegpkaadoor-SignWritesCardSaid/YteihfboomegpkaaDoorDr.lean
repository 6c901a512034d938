/- Layer 7: derive and its reference. -/
import Derived.Test.YteihfboomegpkaaDoorCc
import Derived.Test.YteihfboomegpkaaDoorL4
import Derived.Test.YteihfboomegpkaaDoorWy
namespace Go.Proofs.YteihfboomegpkaaDoor
open Go.RowKit
set_option linter.unusedVariables false
set_option maxRecDepth 100000

/-- The two tables of the digest are there. -/
structure Env (w : World) : Prop where
  d : KTab w 0
  r : KTab w 1
theorem Env.ext {w w' : World} (h : Env w) (b : Ext w w') : Env w' := ⟨h.d.below b, h.r.below b⟩

theorem Own.oneC (w : World) (x : UInt8) (z : Int) (h : (x.toNat : Int) = z) : Own (w.alloc (.cells #[.int .u8 z] 5)) w.heap.size 5 (.slice (some ⟨w.heap.size, 0, none⟩) 1 1) (bvs [x]) := by subst h; exact Own.lit w _ _ 1 rfl (by unfold maxLen; omega)
/-- New bytes, as a call in a region leaves them. -/
def GB (l : List UInt8) : VPred := fun v w => ∃ A n c, v = .slice A n c ∧ Hid (n = l.length) ∧ Rd w (.slice A n c) (bvs l)
theorem stable_GB (l : List UInt8) : StableP (GB l) := fun v w w' hb ⟨A, n, c, h1, h2, h3⟩ => ⟨A, n, c, h1, h2, h3.ext hb⟩
theorem RetB.gb {w w' : World} {l : List UInt8} {e : Ending} (h : RetB w l e w') : ∃ v, e = .returned v ∧ Ext w w' ∧ GB l v w' := by
  obtain ⟨A, n, c, h1, h2, h3, h4⟩ := h
  exact ⟨_, h1, h4, A, n, c, rfl, h2, h3.rd⟩

theorem Rd.cap3 {w : World} {A : Option Addr} {n c : Nat} {l : List UInt8} (h : Rd w (.slice A n c) (bvs l)) (k c' : Nat) (hk : k ≤ n) (hkc : k ≤ c') (hc : c' ≤ c) : Rd w (.slice A k c') (bvs (l.take k)) := by
  obtain ⟨A', n', c2, e, h1, h2, h3, h4⟩ := h.take k hk
  injection e with e1 e2 e3
  subst e1 e2 e3
  exact ⟨_, _, _, rfl, h1, hkc, by omega, h4⟩

/-- Block i of what is drawn. -/
def drawn (seed : List UInt8) (i : Nat) : List UInt8 := sha (seed ++ ([1] ++ be4 (i : Int)))
def stream (seed : List UInt8) : Nat → List UInt8
  | 0 => []
  | k + 1 => stream seed k ++ drawn seed k
theorem stream_length (seed : List UInt8) : ∀ k, (stream seed k).length = 32 * k
  | 0 => rfl
  | k + 1 => by rw [stream, List.length_append, stream_length seed k, drawn, sha_length]; omega
theorem stream_take (seed : List UInt8) (k : Nat) : ∀ j, (stream seed (k + j)).take (32 * k) = stream seed k
  | 0 => by rw [Nat.add_zero, List.take_of_length_le (by rw [stream_length]; exact Nat.le_refl _)]
  | j + 1 => by rw [← Nat.add_assoc, stream, List.take_append_of_le_length (by rw [stream_length]; omega), stream_take seed k j]
/-- The first n bytes that are drawn of a seed; the next seed. -/
def draws (seed : List UInt8) (n : Nat) : List UInt8 := (stream seed ((n + 31) / 32)).take n
def nextSeed (seed : List UInt8) : List UInt8 := sha (seed ++ [0])
theorem draws_length (seed : List UInt8) (n : Nat) : (draws seed n).length = n := by
  unfold draws; rw [List.length_take, stream_length]; omega
theorem draws_take (seed : List UInt8) {n m : Nat} (h : n ≤ m) : (draws seed m).take n = draws seed n := by
  unfold draws
  rw [List.take_take, Nat.min_eq_left h]
  have e : (m + 31) / 32 = (n + 31) / 32 + ((m + 31) / 32 - (n + 31) / 32) := by omega
  rw [e]
  have h2 := stream_take seed ((n + 31) / 32) ((m + 31) / 32 - (n + 31) / 32)
  have h3 : n ≤ 32 * ((n + 31) / 32) := by omega
  conv => rhs; rw [← h2]
  rw [List.take_take, Nat.min_eq_left h3]

theorem with_any {a b : Value} {xs ys : List UInt8} (w : World) (ha : Rd w a (bvs xs)) (hb : Rd w b (bvs ys)) (h47 : xs.length + ys.length ≤ 140737488353000) (E : KTab w 0) :
    Calls Tryd.prog 71 #[a, b] w (RetB w (sha (xs ++ ys))) := by
  have ha0 := ha
  have hb0 := hb
  obtain ⟨A, n1, c, rfl, hn1, hnc, hcm, hA⟩ := ha.bytes
  obtain ⟨A2, n2, c2, rfl, hn2, hnc2, hcm2, hB⟩ := hb.bytes
  subst hn1 hn2
  clear hA hB ha hb
  have e0 : Ext w (w.alloc (.cells #[.slice A xs.length c, .slice A2 ys.length c2] 22)) := (Below.refl _ _).alloc (Nat.le_refl _) _
  go_enter Tryd.func71, Tryd.ntmps71
  go_wp2_with (first
    | (go_at_call 91; refine (concat2_any _ (heap_alloc_new' w _) (ha0.ext e0) (hb0.ext e0) (by omega)).mono ?_; rintro e w1 ⟨A1, n1, c1, rfl, hn1, o1, b1⟩)
    | (go_at_call 28; refine (digsum_any _ o1.rd (by rw [List.length_append]; exact h47) (E.below (e0.tr b1))).mono ?_; rintro e w2 ⟨A2, n2, c2, rfl, hn2, o2, b2⟩))
  go_ret
  exact ⟨_, _, _, rfl, hn2, o2.mono (Nat.le_trans e0.size b1.size), (e0.tr b1).tr b2⟩

/-- A call that returns drawn bytes and a seed. -/
def RetD (w : World) (out next : List UInt8) (e : Ending) (w' : World) : Prop :=
  ∃ A n c A2 n2 c2, e = .returned (.tuple #[.slice A n c, .slice A2 n2 c2, .int .i64 0]) ∧ Hid (n = out.length) ∧ Hid (n2 = next.length) ∧ Rd w' (.slice A n c) (bvs out) ∧ Rd w' (.slice A2 n2 c2) (bvs next) ∧ Ext w w'
set_option maxHeartbeats 1000000 in
theorem draw_any {a : Value} {l : List UInt8} (z : Int) (w : World) (ha : Rd w a (bvs l)) (hl : l.length ≤ 140737488352000) (h0 : 0 ≤ z) (h1 : z ≤ 1024) (E : KTab w 0) :
    Calls Tryd.prog 32 #[a, .int .i64 z] w (RetD w (draws l z.toNat) (nextSeed l)) := by
  have ha0 := ha
  obtain ⟨A, n1, c, rfl, hn1, hnc, hcm, hA⟩ := ha.bytes
  subst hn1
  clear hA ha
  have hd : decide (z < 0) = false := by simp; omega
  have hd2 : decide (1024 < z) = false := by simp; omega
  go_enter Tryd.func32, Tryd.ntmps32
  go_wp2
  go_loopw [4, 7] (fun v i wr => ∃ (k : Nat) (A : Option Addr) (n c : Nat), k ≤ (z.toNat + 31) / 32 ∧ i = .int .i64 (k : Int) ∧ v = .slice A n c ∧ Hid (n = 32 * k) ∧ Own wr w.heap.size 5 (.slice A n c) (bvs (stream l k)) ∧ Ext w wr) (fun _ i _ => 64 - (intOf i).toNat)
  case atStart => exact ⟨0, none, 0, 0, by omega, rfl, rfl, rfl, nilB _ _, Below.refl _ _⟩
  case round =>
    obtain ⟨k, A2, n2, c2, hk, rfl, rfl, hn2, o2, b2⟩ := hrel
    by_cases hlt : k < (z.toNat + 31) / 32
    · have h32 : (n2 : Int) < z := by rw [hn2.out]; omega
      have hk40 : k ≤ 40 := by omega
      go_wp2_with fail
      refine (oct4_any _ _ (by omega) (by omega)).mono ?_
      rintro e w3 ⟨A3, n3, c3, rfl, hn3, o3, b3⟩
      have e3 : Ext w3 (w3.alloc (.cells #[.int .u8 1] 5)) := (Below.refl _ _).alloc (Nat.le_refl _) _
      go_wp2_with (first
        | (refine appB (ys := be4 (k : Int)) (Own.oneC w3 1 1 rfl) (o3.rd.ext e3) e3 (by simp [be4]) (by simp) rfl rfl rfl rfl ?_; intro A4 n4 c4 w4 hn4 o4 (b4 : Ext _ _) g4)
        | (go_at_call 71; refine (with_any _ (ha0.ext (((b2.tr b3).tr b4))) o4.rd (by simp [be4]; omega) (E.below ((b2.tr b3).tr b4))).mono ?_; rintro e w5 ⟨A5, n5, c5, rfl, hn5, o5, b5⟩)
        | (refine appB (o2.ext ((b3.tr b4).tr b5)) o5.rd (((b2.tr b3).tr b4).tr b5) (by rw [stream_length, sha_length]; omega) (((b2.tr b3).tr b4).tr b5).size rfl rfl rfl rfl ?_; intro A6 n6 c6 w6 hn6 o6 (b6 : Ext _ _) g6))
      go_roundw
      case rel => exact ⟨k + 1, A6, n6, c6, by omega, by go_num, rfl, (show _ = _ by have := hn6.out; rw [stream_length, sha_length] at this; omega), o6, b6⟩
      case measure => simp [intOf]; omega
    · have hk2 : k = (z.toNat + 31) / 32 := by omega
      have h32 : z ≤ (n2 : Int) := by rw [hn2.out]; omega
      have hcaps := o2.rd.caps
      have hc2 : z ≤ (c2 : Int) := by omega
      have HK := Lib.hid hk2
      clear hk2 hcaps
      go_wp2_with fail
      have hb1 : ∀ W : World, (Instr.buildSlice 22 1 #[(0, .int .u8 0)]).run Tryd.prog W = .ok (.slice (some ⟨W.heap.size, 0, none⟩) 1 1) (W.alloc (.cells #[.int .u8 0] 5)) := fun W => by go_simp
      have HB1 := Lib.hid hb1
      clear hb1
      refine wp_region_X 7 (by kernel_rfl) (by kernel_rfl) ?_
      simp only [List.take_succ_cons, List.take_zero, List.drop_succ_cons, List.drop_zero]
      intro w1 hw1
      have L : ∀ m : Lt w1, Ext wr m.1 := fun m => hw1.tr m.2
      repeat (refine wpX_pure rfl rfl rfl rfl rfl (fun K hK => ?_); go_big_quiet_op; refine hK _ ?_; clear hK K)
      refine wpX_build 0 (Nat.zero_le _) HB1.out rfl rfl rfl rfl rfl rfl rfl ?_
      simp only [Act.put, List.setIfInBounds_toArray, List.set_cons_zero, List.set_cons_succ]
      refine wpX_callUseHole 39 _ (GB (nextSeed l)) (stable_GB _) (fun u => [.slice A l.length c, u]) rfl rfl rfl rfl rfl rfl rfl (fun u => rfl) (by kernel_rfl) (fun u => rfl) (fun m u hu => (with_any (ys := [0]) _ (ha0.ext (b2.tr (L m))) hu.rd (by simp; omega) (E.below (b2.tr (L m)))).mono fun e w'' h => h.gb) ?_
      simp only [Act.put, List.setIfInBounds_toArray, List.set_cons_zero, List.set_cons_succ]
      refine wpX_end2 (by decide) (fun m u1 u2 hu1 hu2 => ?_)
      simp only [Act.put, List.setIfInBounds_toArray, List.set_cons_zero, List.set_cons_succ]
      obtain ⟨A5, n5, c5, rfl, hn5, r5⟩ := hu2
      have Lm := L m
      obtain ⟨wy, hwy⟩ := m
      clear L
      go_wp2
      go_ret3
      refine ⟨_, _, _, _, _, _, rfl, (show _ = _ by rw [draws_length]), hn5, ?_, r5, b2.tr Lm⟩
      rw [draws, ← HK.out]
      exact (o2.rd.ext Lm).cap3 _ _ (by omega) (Nat.le_refl _) (by omega)
theorem draw_bad (a : Value) (z : Int) (w : World) (h : ¬ (0 ≤ z ∧ z ≤ 1024)) :
    Calls Tryd.prog 32 #[a, .int .i64 z] w (RetQ w (.tuple #[.slice none 0 0, .slice none 0 0, .int .i64 2])) := by
  by_cases hz : z < 0
  · clear h
    go_enter Tryd.func32, Tryd.ntmps32
    go_wp2
    go_ret3
    exact ⟨rfl, Below.refl _ _⟩
  · have hz2 : 1024 < z := by omega
    have hz3 : 0 ≤ z := by omega
    clear h hz
    go_enter Tryd.func32, Tryd.ntmps32
    go_wp2
    go_ret3
    exact ⟨rfl, Below.refl _ _⟩
theorem refdraw_bad (a : Value) (z : Int) (w : World) (h : ¬ (0 ≤ z ∧ z ≤ 1024)) :
    Calls Tryd.prog 33 #[a, .int .i64 z] w (RetQ w (.tuple #[.slice none 0 0, .slice none 0 0, .int .i64 2])) := by
  by_cases hz : z < 0
  · clear h
    go_enter Tryd.func33, Tryd.ntmps33
    go_wp2
    go_ret3
    exact ⟨rfl, Below.refl _ _⟩
  · have hz2 : 1024 < z := by omega
    have hz3 : 0 ≤ z := by omega
    clear h hz
    go_enter Tryd.func33, Tryd.ntmps33
    go_wp2
    go_ret3
    exact ⟨rfl, Below.refl _ _⟩
set_option maxHeartbeats 1000000 in
theorem refdraw_any {a : Value} {l : List UInt8} (z : Int) (w : World) (ha : Rd w a (bvs l)) (hl : l.length ≤ 140737488352000) (h0 : 0 ≤ z) (h1 : z ≤ 1024) (E : Env w) :
    Calls Tryd.prog 33 #[a, .int .i64 z] w (RetD w (draws l z.toNat) (nextSeed l)) := by
  have ha0 := ha
  obtain ⟨A, n1, c, rfl, hn1, hnc, hcm, hA⟩ := ha.bytes
  subst hn1
  clear hA ha
  have hd : decide (z < 0) = false := by simp; omega
  have hd2 : decide (1024 < z) = false := by simp; omega
  go_enter Tryd.func33, Tryd.ntmps33
  go_wp2
  go_loopw [7, 8] (fun v i wr => ∃ (k : Nat) (A : Option Addr) (n c : Nat), k ≤ (z.toNat + 31) / 32 ∧ i = .int .i64 (k : Int) ∧ v = .slice A n c ∧ Hid (n = 32 * k) ∧ Own wr w.heap.size 5 (.slice A n c) (bvs (stream l k)) ∧ Ext w wr) (fun _ i _ => 64 - (intOf i).toNat)
  case atStart => exact ⟨0, none, 0, 0, by omega, rfl, rfl, rfl, nilB _ _, Below.refl _ _⟩
  case round =>
    obtain ⟨k, A2, n2, c2, hk, rfl, rfl, hn2, o2, b2⟩ := hrel
    by_cases hlt : k < (z.toNat + 31) / 32
    · have h32 : (n2 : Int) < z := by rw [hn2.out]; omega
      have hk40 : k ≤ 40 := by omega
      have e3 : Ext wr (wr.alloc (.cells #[.int .u8 1] 5)) := (Below.refl _ _).alloc (Nat.le_refl _) _
      go_wp2_with (first
        | (go_at_call 73; refine (four_any _ _).mono ?_; rintro e w3 ⟨A3, n3, c3, rfl, hn3, o3, b3⟩)
        | (refine appB (ys := be4 (k : Int)) ((Own.oneC wr 1 1 rfl).ext b3) o3.rd (e3.tr b3) (by simp [be4]) (e3.tr b3).size rfl rfl rfl rfl ?_; intro A4 n4 c4 w4 hn4 o4 (b4 : Ext _ _) g4)
        | (go_at_call 72; refine (join_any _ (ha0.ext (b2.tr b4)) o4.rd (by simp [be4]; omega)).mono ?_; rintro e w5 ⟨A5, n5, c5, rfl, hn5, o5, b5⟩)
        | (go_at_call 29; refine (refsum_any _ o5.rd (by simp [be4]; omega) (E.ext ((b2.tr b4).tr b5)).r).mono ?_; rintro e w6 ⟨A6, n6, c6, rfl, hn6, o6, b6⟩)
        | (refine appB (o2.ext ((b4.tr b5).tr b6)) o6.rd (((b2.tr b4).tr b5).tr b6) (by rw [stream_length, sha_length]; omega) (((b2.tr b4).tr b5).tr b6).size rfl rfl rfl rfl ?_; intro A7 n7 c7 w7 hn7 o7 (b7 : Ext _ _) g7))
      go_roundw
      case rel => exact ⟨k + 1, A7, n7, c7, by omega, by go_num, rfl, (show _ = _ by have := hn7.out; rw [stream_length, sha_length] at this; omega), o7, b7⟩
      case measure => simp [intOf]; omega
    · have hk2 : k = (z.toNat + 31) / 32 := by omega
      have h32 : z ≤ (n2 : Int) := by rw [hn2.out]; omega
      have hcaps := o2.rd.caps
      have hc2 : z ≤ (c2 : Int) := by omega
      have HK := Lib.hid hk2
      clear hk2 hcaps
      go_wp2_with fail
      have hb1 : ∀ W : World, (Instr.buildSlice 22 1 #[(0, .int .u8 0)]).run Tryd.prog W = .ok (.slice (some ⟨W.heap.size, 0, none⟩) 1 1) (W.alloc (.cells #[.int .u8 0] 5)) := fun W => by go_simp
      have HB1 := Lib.hid hb1
      clear hb1
      refine wp_region_X 7 (by kernel_rfl) (by kernel_rfl) ?_
      simp only [List.take_succ_cons, List.take_zero, List.drop_succ_cons, List.drop_zero]
      intro w1 hw1
      have L : ∀ m : Lt w1, Ext wr m.1 := fun m => hw1.tr m.2
      repeat (refine wpX_pure rfl rfl rfl rfl rfl (fun K hK => ?_); go_big_quiet_op; refine hK _ ?_; clear hK K)
      refine wpX_build 0 (Nat.zero_le _) HB1.out rfl rfl rfl rfl rfl rfl rfl ?_
      simp only [Act.put, List.setIfInBounds_toArray, List.set_cons_zero, List.set_cons_succ]
      refine wpX_callUseHole 34 _ (GB (l ++ [0])) (stable_GB _) (fun u => [.slice A l.length c, u]) rfl rfl rfl rfl rfl rfl rfl (fun u => rfl) (by kernel_rfl) (fun u => rfl) (fun m u hu => (join_any (ys := [0]) _ (ha0.ext (b2.tr (L m))) hu.rd (by simp; omega)).mono fun e w'' h => h.gb) ?_
      simp only [Act.put, List.setIfInBounds_toArray, List.set_cons_zero, List.set_cons_succ]
      refine wpX_callUseHole 35 _ (GB (nextSeed l)) (stable_GB _) (fun u => [u]) rfl rfl rfl rfl rfl rfl rfl (fun u => rfl) (by kernel_rfl) (fun u => rfl) (fun m u hu => by
        obtain ⟨A8, n8, c8, rfl, hn8, r8⟩ := hu
        exact (refsum_any _ r8 (by simp; omega) (E.ext (b2.tr (L m))).r).mono fun e w'' h => h.gb) ?_
      simp only [Act.put, List.setIfInBounds_toArray, List.set_cons_zero, List.set_cons_succ]
      refine wpX_end3 (by decide) (by decide) (by decide) (fun m u1 u2 u3 hu1 hu2 hu3 => ?_)
      simp only [Act.put, List.setIfInBounds_toArray, List.set_cons_zero, List.set_cons_succ]
      obtain ⟨A5, n5, c5, rfl, hn5, r5⟩ := hu3
      have Lm := L m
      obtain ⟨wy, hwy⟩ := m
      clear L
      go_wp2
      go_ret3
      refine ⟨_, _, _, _, _, _, rfl, (show _ = _ by rw [draws_length]), hn5, ?_, r5, b2.tr Lm⟩
      rw [draws, ← HK.out]
      exact (o2.rd.ext Lm).cap3 _ _ (by omega) (by omega) (Nat.le_refl _)
end Go.Proofs.YteihfboomegpkaaDoor
