/- The reference's Sum. -/
import Derived.Test.YtkjplpmogfmhkaaGreatDoorWd4
import Derived.Test.YtkjplpmogfmhkaaGreatDoorWd2
import Derived.Test.YtkjplpmogfmhkaaGreatDoorWd5
import Derived.Test.YtkjplpmogfmhkaaGreatDoorWx
namespace Go.Proofs.YtkjplpmogfmhkaaGreatDoor
open Go.RowKit
set_option linter.unusedVariables false

/-- The slice of four bytes that append(out, ..) makes. -/
theorem Rd.four (w : World) (x : Int) : Rd (w.alloc (.cells #[.int .u8 (x / 16777216 % 256), .int .u8 (x / 65536 % 256), .int .u8 (x / 256 % 256), .int .u8 (x % 256)] 5)) (.slice (some ⟨w.heap.size, 0, none⟩) 4 4) (bvs (be4 x)) := by
  rw [bvs_be4]; exact Rd.lit w _ _ 4 rfl (by unfold maxLen; omega)
theorem bytes8_step {s : List Int} {j : Nat} (h : j < s.length) : bytes8 (s.take (j + 1)) = bytes8 (s.take j) ++ be4 (s.getD j 0) := by
  unfold bytes8
  rw [List.take_succ_eq_append_getElem h, List.map_append, List.flatten_append]
  simp [List.getD_eq_getElem?_getD, h]
theorem bytes8_length (s : List Int) : (bytes8 s).length = 4 * s.length := by
  induction s with
  | nil => rfl
  | cons x r ih =>
    have : bytes8 (x :: r) = be4 x ++ bytes8 r := rfl
    rw [this, List.length_append, ih]
    simp [be4]; omega
theorem sha_length (l : List UInt8) : (sha l).length = 32 := by unfold sha; rw [bytes8_length, states_length]
theorem pad_blocks (l : List UInt8) : (pad l).length = 64 * ((pad l).length / 64) := by
  have := pad_mod l
  omega

set_option maxRecDepth 100000 in
set_option maxHeartbeats 2000000 in
theorem refsum_any {b : Value} {l : List UInt8} (w : World) (hb : Rd w b (bvs l)) (h47 : l.length ≤ 140737488353000) (hk : KTab w 0) :
    Calls Tryz.prog 220 #[b] w (RetB w (sha l)) := by
  obtain ⟨A, n, c, rfl, hn, hnc, hcm, hA⟩ := hb.bytes
  subst hn
  clear hA
  go_enter Tryz.func220, Tryz.ntmps220
  go_wp2_with (first
    | (go_at_call 267; refine (refpad_any _ hb h47).mono ?_; rintro e w1 ⟨A1, n1, c1, rfl, hn1, o1, b1⟩)
    | (go_at_call 268; refine (refstart_any _).mono ?_; rintro e w2 ⟨A2, n2, c2, rfl, hn2, r2, b2⟩; obtain rfl : n2 = 8 := hn2))
  have k2 : KTab w2 0 := (hk.below b1).below b2
  obtain ⟨p, hp⟩ : ∃ p, p = pad l := ⟨_, rfl⟩
  obtain ⟨m, hm⟩ : ∃ m, m = p.length / 64 := ⟨_, rfl⟩
  have hpm : p.length = 64 * m := by rw [hm, hp]; exact pad_blocks l
  have hpm2 : 64 * m ≤ 140737488355328 := by rw [← hpm, hp, pad_length]; have := zeros_lt l.length; omega
  have hp2 : Rd w2 (.slice A1 n1 c1) (bvs p) := by rw [hp]; exact (o1.ext b2).rd
  obtain rfl : n1 = 64 * m := by rw [← hpm, hp]; exact hn1.out
  obtain ⟨_, _, _, e1, hxx, hmc, hcc, hcell⟩ := hp2.bytes
  injection e1 with e1 e2 e3
  subst e1 e2 e3
  have HP := Lib.hid hp
  have HM := Lib.hid hm
  have HPM := Lib.hid hpm
  have r2' : RdI w2 .u32 (.slice A2 8 c2) (states p 0) := r2
  clear hp hm hpm r2 hk hcell o1 hn1 hxx
  unfold maxLen at hcc
  go_loopw [4, 5] (fun v i wr => ∃ k A c, k ≤ m ∧ i = .int .i64 (64 * (k : Int)) ∧ v = .slice A 8 c ∧ RdI wr .u32 (.slice A 8 c) (states p k) ∧ Ext w2 wr) (fun _ i _ => (64 * m + 64 - intOf i).toNat)
  case atStart => exact ⟨0, A2, c2, by omega, rfl, rfl, r2', Below.refl _ _⟩
  case round =>
    obtain ⟨k, A3, c3, hk, rfl, rfl, r3, b3⟩ := hrel
    by_cases hlt : k < m
    · have h0 : (0 : Int) ≤ 64 * (k : Int) := by omega
      have w1 : IntKind.i64.wrap (64 * (k : Int) + 64) = 64 * (k : Int) + 64 := IntWalk.i64_in _ (by omega)
      have h1 : 64 * (k : Int) + 64 ≤ ((64 * m : Nat) : Int) := by omega
      have h2 : 64 * (k : Int) ≤ 64 * (k : Int) + 64 := by omega
      have t1 : (64 * (k : Int)).toNat = 64 * k := by omega
      have t2 : (64 * (k : Int) + 64).toNat = 64 * k + 64 := by omega
      have hlen : ((p.drop (64 * k)).take 64).length = 64 := by rw [List.length_take, List.length_drop, HPM.out]; omega
      have hcut : Rd wr (.slice (A1.map (fun x => x.add (64 * k))) 64 (c1 - 64 * k)) (bvs ((p.drop (64 * k)).take 64)) := by
        have := Rd.cut (64 * k) (64 * k + 64) (hp2.ext b3) (by omega) (by rw [bvs_length, HPM.out]; omega)
        rw [if_neg (by omega), Nat.add_sub_cancel_left] at this
        rw [bvs, List.map_take, List.map_drop]
        exact this
      go_wp2_with (go_at_call 269; refine (refcomp_any (l := (p.drop (64 * k)).take 64) _ r3 hcut (states_length _ _) hlen (k2.below b3)).mono ?_; rintro e w4 ⟨A4, c4, rfl, r4, b4⟩)
      go_roundw
      case rel => exact ⟨k + 1, A4, c4, by omega, by go_num, rfl, r4, b3.trans (b4.mono b3.size)⟩
      case measure => simp [intOf]; omega
    · obtain rfl : k = m := by omega
      go_wp2
      obtain ⟨wa, hwa⟩ : ∃ x, x = wr := ⟨_, rfl⟩
      subst hwa
      obtain ⟨_, _, _, e1, hxx, hmc3, hcc3, hcell⟩ := r3.ints
      injection e1 with e1 e2 e3
      subst e1 e2 e3
      obtain ⟨bs, os, rfl, hbs, hs⟩ := hcell (by omega)
      have HS := Lib.hid hs
      clear hs hcell hxx
      go_loopw [6, 7] (fun v i wr => ∃ (j : Nat) (A : Option Addr) (n c : Nat), j ≤ 8 ∧ i = .int .i64 (j : Int) ∧ v = .slice A n c ∧ Hid (n = 4 * j) ∧ Own wr wa.heap.size 5 (.slice A n c) (bvs (bytes8 ((states p k).take j))) ∧ Below wa.heap.size wa wr) (fun _ i _ => (8 - intOf i).toNat)
      case atStart => exact ⟨0, none, 0, 0, by omega, rfl, rfl, rfl, nilB _ _, Below.refl _ _⟩
      case round =>
        obtain ⟨j, A4, n4, c4, hj, rfl, rfl, hn4, o4, b4⟩ := hrel
        by_cases hj8 : j < 8
        · obtain ⟨x, hx⟩ : ∃ x, x = (states p k).getD j 0 := ⟨_, rfl⟩
          have cst : wr.cell? ⟨bs, os + j, none⟩ = some (.int .u32 x) := (b4.cell hbs).trans ((HS.out j hj8).trans (by rw [hx]))
          have HX := Lib.hid hx
          clear hx
          have wi1 : IntKind.i64.wrap ((j : Int)) = (j : Int) := IntWalk.i64_in _ (by omega)
          have zi1 : (0 : Int) ≤ (j : Int) := by omega
          have li1 : (j : Int) < 8 := by omega
          have ti1 : ((j : Int)).toNat = j := by omega
          have HN := Lib.hid hn4
          clear hn4
          go_wp2
          have hb1 : ∀ W : World, (Instr.buildSlice 89 4 #[(0, .int .u8 (x / 16777216 % 256)), (1, .int .u8 (x / 65536 % 256)), (2, .int .u8 (x / 256 % 256)), (3, .int .u8 (x % 256))]).run Tryz.prog W = .ok (.slice (some ⟨W.heap.size, 0, none⟩) 4 4) (W.alloc (.cells #[.int .u8 (x / 16777216 % 256), .int .u8 (x / 65536 % 256), .int .u8 (x / 256 % 256), .int .u8 (x % 256)] 5)) := fun W => by go_simp
          have HB1 := Lib.hid hb1
          clear hb1
          refine wp_region_X 25 (by kernel_rfl) (by kernel_rfl) ?_
          simp only [List.take_succ_cons, List.take_zero, List.drop_succ_cons, List.drop_zero]
          intro w1 hw1
          have L : ∀ m : Lt w1, Ext wr m.1 := fun m => hw1.tr m.2
          have xs : ∀ m : Lt w1, m.1.cell? ⟨bs, os + j, none⟩ = some (.int .u32 x) := fun m => ((L m).cell (World.block_lt_of_cell? wr _ cst)).trans cst
          repeat (refine wpX_pure rfl rfl rfl rfl rfl (fun K hK => ?_); go_big_quiet_op; refine hK _ ?_; clear hK K)
          refine wpX_build 0 (Nat.zero_le _) HB1.out rfl rfl rfl rfl rfl rfl rfl ?_
          simp only [Act.put, List.setIfInBounds_toArray, List.set_cons_zero, List.set_cons_succ]
          repeat (refine wpX_pure rfl rfl rfl rfl rfl (fun K hK => ?_); go_big_quiet_op; refine hK _ ?_; clear hK K)
          refine wpX_end1 (fun m u1 hu => ?_)
          simp only [Act.put, List.setIfInBounds_toArray, List.set_cons_zero, List.set_cons_succ]
          have r4 : Rd m.1 u1 (bvs (be4 x)) := by rw [bvs_be4]; exact hu.rd
          have Lm := L m
          obtain ⟨wy, hwy⟩ := m
          clear xs L
          go_wp2_with (refine appB (o4.ext Lm) r4 (b4.trans (Lm.mono b4.size)) (by rw [bytes8_length]; simp [be4]; omega) (Nat.le_trans b4.size Lm.size) rfl rfl rfl rfl ?_; intro A5 n5 c5 w5 hn5 o5 b5 g5)
          go_roundw
          case rel => exact ⟨j + 1, A5, n5, c5, by omega, by go_num, rfl, (show _ = _ by have := hn5.out; rw [bytes8_length, List.length_take, states_length] at this; simp [be4] at this; omega), by rw [bytes8_step (by rw [states_length]; exact hj8), ← HX.out]; exact o5, b5⟩
          case measure => simp [intOf]; omega
        · obtain rfl : j = 8 := by omega
          simp only [Int.cast_ofNat_Int]
          go_wp2
          go_ret
          have e8 : bytes8 ((states p k).take 8) = sha l := by
            rw [List.take_of_length_le (by rw [states_length]; exact Nat.le_refl _), HM.out, HP.out]; rfl
          rw [e8] at o4
          have hsz : w.heap.size ≤ wa.heap.size := Nat.le_trans b1.size (Nat.le_trans b2.size b3.size)
          exact ⟨_, _, _, rfl, (show _ = _ by rw [hn4.out, sha_length]), o4.mono hsz, ((b1.trans (b2.mono b1.size)).trans (b3.mono (Nat.le_trans b1.size b2.size))).trans (b4.mono hsz)⟩
end Go.Proofs.YtkjplpmogfmhkaaGreatDoor
