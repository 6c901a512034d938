/- Law 04: the walks of DigestStandard and DigestGoesOn. -/
import Derived.Test.YteihfboomegpkaaDoorL4
namespace Go.Proofs.YteihfboomegpkaaDoor
open Go.RowKit
set_option linter.unusedVariables false

theorem Rd.oneI (w : World) (z : Int) (h0 : 0 ≤ z) (h1 : z < 256) : Rd (w.alloc (.cells #[.int .u8 z] 5)) (.slice (some ⟨w.heap.size, 0, none⟩) 1 1) (bvs [u8 z]) := by
  have := Rd.oneZ w z
  rwa [Int.emod_eq_of_lt h0 h1] at this
def m56L : List UInt8 := [97, 98, 99, 100, 98, 99, 100, 101, 99, 100, 101, 102, 100, 101, 102, 103, 101, 102, 103, 104, 102, 103, 104, 105, 103, 104, 105, 106, 104, 105, 106, 107, 105, 106, 107, 108, 106, 107, 108, 109, 107, 108, 109, 110, 108, 109, 110, 111, 109, 110, 111, 112, 110, 111, 112, 113]
theorem m56_len : m56L.length = 56 := rfl
theorem rd56 (w : World) : Rd (w.alloc (.cells #[.int .u8 97, .int .u8 98, .int .u8 99, .int .u8 100, .int .u8 98, .int .u8 99, .int .u8 100, .int .u8 101, .int .u8 99, .int .u8 100, .int .u8 101, .int .u8 102, .int .u8 100, .int .u8 101, .int .u8 102, .int .u8 103, .int .u8 101, .int .u8 102, .int .u8 103, .int .u8 104, .int .u8 102, .int .u8 103, .int .u8 104, .int .u8 105, .int .u8 103, .int .u8 104, .int .u8 105, .int .u8 106, .int .u8 104, .int .u8 105, .int .u8 106, .int .u8 107, .int .u8 105, .int .u8 106, .int .u8 107, .int .u8 108, .int .u8 106, .int .u8 107, .int .u8 108, .int .u8 109, .int .u8 107, .int .u8 108, .int .u8 109, .int .u8 110, .int .u8 108, .int .u8 109, .int .u8 110, .int .u8 111, .int .u8 109, .int .u8 110, .int .u8 111, .int .u8 112, .int .u8 110, .int .u8 111, .int .u8 112, .int .u8 113] 5 (56, 57))) (.slice (some ⟨w.heap.size, 0, none⟩) 56 56) (bvs m56L) := Rd.litM w _ _ _ 56 rfl (by unfold maxLen; omega)
set_option maxRecDepth 100000 in
set_option maxHeartbeats 4000000 in
theorem standard_any (w : World) (hk : KTab w 0) : Calls Tryd.prog 7 #[] w (RetQ w (.bool true)) := by
  have HK := Lib.hid hk
  clear hk
  have kc := fun (w : World) (C : Array Value) (n c : Nat) => Lib.run_convert_bytes_const (P := Tryd.prog) w 22 5 C n c Tryd.underlying22 Tryd.underlying5
  go_enter Tryd.func7, Tryd.ntmps7
  go_wp2_with fail
  refine (digsum_any (l := []) _ (Rd.nil_ _) (by simp) HK.out).mono ?_
  rintro e w1 ⟨A1, n1, c1, rfl, hn1, o1, b1⟩
  go_wp2_with fail
  refine (hex_any _ o1.rd (by rw [sha_length]; omega)).mono ?_
  rw [hex_nil]
  rintro e w2 ⟨rfl, b2⟩
  clear hn1 o1
  have e3 : Ext w2 (w2.alloc (.cells #[.int .u8 97, .int .u8 98, .int .u8 99] 5 (3, 4))) := (Below.refl _ _).alloc (Nat.le_refl _) _
  go_wp2_with fail
  refine (digsum_any _ (rd3 w2) (by simp) (((HK.out.below b1).below b2).below e3)).mono ?_
  rintro e w4 ⟨A4, n4, c4, rfl, hn4, o4, b4⟩
  go_wp2_with fail
  refine (hex_any _ o4.rd (by rw [sha_length]; omega)).mono ?_
  rw [hex_abc]
  rintro e w5 ⟨rfl, b5⟩
  clear hn4 o4
  go_wp2_with fail
  have e6 : Ext w5 (w5.alloc (.cells #[.int .u8 97, .int .u8 98, .int .u8 99, .int .u8 100, .int .u8 98, .int .u8 99, .int .u8 100, .int .u8 101, .int .u8 99, .int .u8 100, .int .u8 101, .int .u8 102, .int .u8 100, .int .u8 101, .int .u8 102, .int .u8 103, .int .u8 101, .int .u8 102, .int .u8 103, .int .u8 104, .int .u8 102, .int .u8 103, .int .u8 104, .int .u8 105, .int .u8 103, .int .u8 104, .int .u8 105, .int .u8 106, .int .u8 104, .int .u8 105, .int .u8 106, .int .u8 107, .int .u8 105, .int .u8 106, .int .u8 107, .int .u8 108, .int .u8 106, .int .u8 107, .int .u8 108, .int .u8 109, .int .u8 107, .int .u8 108, .int .u8 109, .int .u8 110, .int .u8 108, .int .u8 109, .int .u8 110, .int .u8 111, .int .u8 109, .int .u8 110, .int .u8 111, .int .u8 112, .int .u8 110, .int .u8 111, .int .u8 112, .int .u8 113] 5 (56, 57))) := (Below.refl _ _).alloc (Nat.le_refl _) _
  refine (digsum_any _ (rd56 w5) (by rw [m56_len]; omega) (((((HK.out.below b1).below b2).below e3).below b4).below b5 |>.below e6)).mono ?_
  rintro e w7 ⟨A7, n7, c7, rfl, hn7, o7, b7⟩
  go_wp2_with fail
  refine (hex_any _ o7.rd (by rw [sha_length]; omega)).mono ?_
  rw [m56L, hex_m56]
  rintro e w8 ⟨rfl, b8⟩
  clear hn7 o7
  go_wp2_with fail
  go_ret
  exact ⟨rfl, ((((((b1.tr b2).tr e3).tr b4).tr b5).tr e6).tr b7).tr b8⟩
set_option maxRecDepth 100000 in
set_option maxHeartbeats 4000000 in
theorem goeson_any {b : Value} {l : List UInt8} (x : Int) (w : World) (hx0 : 0 ≤ x) (hx1 : x < 256) (hb : Rd w b (bvs l)) (hl : l.length ≤ 140737488351232) (hk : KTab w 0) :
    Calls Tryd.prog 6 #[b, .int .u8 x] w (RetQ w (.bool true)) := by
  obtain ⟨A, n, c, rfl, hn, hnc, hcm, hA⟩ := hb.bytes
  subst hn
  clear hA
  have HK := Lib.hid hk
  clear hk
  go_enter Tryd.func6, Tryd.ntmps6
  go_wp2_with (refine appN hb (Below.refl _ w) (by omega) (Nat.le_refl _) rfl rfl rfl rfl ?_; intro A1 n1 c1 w1 hn1 o1 b1 g1)
  clear g1
  go_loopw [5, 6] (fun v i wr => ∃ (k : Nat) (A : Option Addr) (n c : Nat) (xs : List UInt8), (k : Int) ≤ x ∧ xs.length = l.length + k ∧ Hid (n = xs.length) ∧ i = .int .i64 (k : Int) ∧ v = .slice A n c ∧ Own wr w.heap.size 5 (.slice A n c) (bvs xs) ∧ Ext w wr) (fun _ i _ => (x - intOf i).toNat)
  case atStart => exact ⟨0, A1, n1, c1, l, by omega, rfl, hn1, rfl, rfl, o1, b1⟩
  case round =>
    obtain ⟨k, A2, n2, c2, xs, hkx, hxs, hn2, rfl, rfl, o2, b2⟩ := hrel
    have hxl : xs.length ≤ 140737488351490 := by omega
    by_cases hlt : (k : Int) < x
    · have HX := Lib.hid hxs
      clear hxs
      go_wp2_with (refine appB (o2.ext (Below.alloc (Below.refl _ _) (Nat.le_refl _) _)) (Rd.oneI wr _ (by omega) (by omega)) (b2.alloc b2.size _) (by simp; omega) (by have := b2.size; simp; omega) rfl rfl rfl rfl ?_; intro A3 n3 c3 w3 hn3 o3 b3 g3)
      go_roundw
      case rel => exact ⟨k + 1, A3, n3, c3, _, by omega, by have := HX.out; simp; omega, by rw [List.length_append]; exact hn3, by go_num, rfl, o3, b3⟩
      case measure => simp [intOf]; omega
    · clear hn1 o1 hb hxs
      go_wp2_with (first
        | (go_at_call 23; refine (digpad_any _ o2.rd (by omega)).mono ?_; rintro e w4 ⟨A4, n4, c4, rfl, hn4, o4, b4⟩; have hm4 : ((n4 : Int) % 64 != 0) = false := (by have := pad_mod xs; rw [hn4.out]; simp; omega))
        | (go_at_call 30; refine (refstart_any _).mono ?_; rintro e w5 ⟨A5, n5, c5, rfl, hn5, r5, b5⟩; obtain rfl : n5 = 8 := hn5))
      have hkk : KTab w5 0 := ((HK.out.below b2).below b4).below b5
      obtain ⟨p, hp⟩ : ∃ p, p = pad xs := ⟨_, rfl⟩
      obtain ⟨m, hm⟩ : ∃ m, m = p.length / 64 := ⟨_, rfl⟩
      have hpm : p.length = 64 * m := by rw [hm, hp]; exact pad_blocks xs
      have hpm2 : 64 * m ≤ 140737488355328 := by rw [← hpm, hp, pad_length]; have := zeros_lt xs.length; omega
      have hp2 : Rd w5 (.slice A4 n4 c4) (bvs p) := by rw [hp]; exact (o4.ext b5).rd
      have hnm : n4 = 64 * m := by rw [← hpm, hp]; exact hn4.out
      obtain ⟨_, _, _, e1, hxx, hmc, hcc, hcell⟩ := hp2.bytes
      injection e1 with e1 e2 e3
      subst e1 e2 e3
      have HP := Lib.hid hp
      have HM := Lib.hid hm
      have HPM := Lib.hid hpm
      have hn47 : n4 ≤ 140737488355328 := by omega
      have HNM := Lib.hid hnm
      have r5' : RdI w5 .u32 (.slice A5 8 c5) (states p 0) := r5
      have u5 : (s8of (states p 0)).u32 := by show (s8of start8).u32; simp only [S8.u32, U32, s8of, start8]; decide
      clear hp hm hpm hnm r5 hcell o4 hn4 hxx hm4
      unfold maxLen at hcc
      have hxs2 : Rd w5 (.slice A2 n2 c2) (bvs xs) := (o2.rd.ext b4).ext b5
      have hw5 : Ext w w5 := (b2.tr b4).tr b5
      clear o2
      go_loopw [8, 9] (fun v i wr => ∃ k A c, k ≤ m ∧ i = .int .i64 (64 * (k : Int)) ∧ v = .slice A 8 c ∧ RdI wr .u32 (.slice A 8 c) (states p k) ∧ (s8of (states p k)).u32 ∧ Ext w5 wr) (fun _ i _ => (64 * m + 64 - intOf i).toNat)
      case atStart => exact ⟨0, A5, c5, by omega, rfl, rfl, r5', u5, Below.refl _ _⟩
      case round =>
        obtain ⟨k, A6, c6, hk, rfl, rfl, r6, u6, b6⟩ := hrel
        by_cases hlt : k < m
        · have h0 : (0 : Int) ≤ 64 * (k : Int) := by omega
          have w1 : IntKind.i64.wrap (64 * (k : Int) + 64) = 64 * (k : Int) + 64 := IntWalk.i64_in _ (by omega)
          have h1 : 64 * (k : Int) + 64 ≤ (n4 : Int) := by have := HNM.out; omega
          have h2 : 64 * (k : Int) ≤ 64 * (k : Int) + 64 := by omega
          have t1 : (64 * (k : Int)).toNat = 64 * k := by omega
          have t2 : (64 * (k : Int) + 64).toNat = 64 * k + 64 := by omega
          have hlen : ((p.drop (64 * k)).take 64).length = 64 := by rw [List.length_take, List.length_drop, HPM.out]; omega
          have hcut : Rd wr (.slice (A4.map (fun x => x.add (64 * k))) 64 (c4 - 64 * k)) (bvs ((p.drop (64 * k)).take 64)) := by
            have := Rd.cut (64 * k) (64 * k + 64) (hp2.ext b6) (by omega) (by rw [bvs_length, HPM.out]; have := HNM.out; omega)
            rw [if_neg (by omega), Nat.add_sub_cancel_left] at this
            rw [bvs, List.map_take, List.map_drop]
            exact this
          go_wp2_with (go_at_call 25; refine (digcomp_any (l := (p.drop (64 * k)).take 64) _ r6 hcut (states_length _ _) hlen (hkk.below b6) u6).mono ?_; rintro e w7 ⟨A7, c7, rfl, r7, b7⟩)
          go_roundw
          case rel => exact ⟨k + 1, A7, c7, by omega, by go_num, rfl, r7, comp_u32 _ _, b6.trans (b7.mono b6.size)⟩
          case measure => simp [intOf]; omega
        · obtain rfl : k = m := by omega
          have h1 : (n4 : Int) ≤ 64 * (k : Int) := by have := HNM.out; omega
          go_wp2
          obtain ⟨wa, hwa⟩ : ∃ x, x = wr := ⟨_, rfl⟩
          subst hwa
          obtain ⟨_, _, _, e1, hxx, hmc3, hcc3, hcell⟩ := r6.ints
          injection e1 with e1 e2 e3
          subst e1 e2 e3
          obtain ⟨bs, os, rfl, hbs, hs⟩ := hcell (by omega)
          have HS := Lib.hid hs
          clear hs hcell hxx
          go_loopw [12, 13] (fun v i wr => ∃ (j : Nat) (A : Option Addr) (n c : Nat), j ≤ 8 ∧ i = .int .i64 (j : Int) ∧ v = .slice A n c ∧ Hid (n = 4 * j) ∧ Own wr wa.heap.size 5 (.slice A n c) (bvs (bytes8 ((states p k).take j))) ∧ Below wa.heap.size wa wr) (fun _ i _ => (8 - intOf i).toNat)
          case atStart => exact ⟨0, none, 0, 0, by omega, rfl, rfl, rfl, nilB _ _, Below.refl _ _⟩
          case round =>
            obtain ⟨j, A8, n8, c8, hj, rfl, rfl, hn8, o8, b8⟩ := hrel
            by_cases hj8 : j < 8
            · obtain ⟨x, hx⟩ : ∃ x, x = (states p k).getD j 0 := ⟨_, rfl⟩
              have cst : wr.cell? ⟨bs, os + j, none⟩ = some (.int .u32 x) := (b8.cell hbs).trans ((HS.out j hj8).trans (by rw [hx]))
              have HX := Lib.hid hx
              clear hx
              have wi1 : IntKind.i64.wrap ((j : Int)) = (j : Int) := IntWalk.i64_in _ (by omega)
              have zi1 : (0 : Int) ≤ (j : Int) := by omega
              have li1 : (j : Int) < 8 := by omega
              have ti1 : ((j : Int)).toNat = j := by omega
              have HN := Lib.hid hn8
              clear hn8
              go_wp2
              have hb1 : ∀ W : World, (Instr.buildSlice 22 4 #[(0, .int .u8 (x / 16777216 % 256)), (1, .int .u8 (x / 65536 % 256)), (2, .int .u8 (x / 256 % 256)), (3, .int .u8 (x % 256))]).run Tryd.prog W = .ok (.slice (some ⟨W.heap.size, 0, none⟩) 4 4) (W.alloc (.cells #[.int .u8 (x / 16777216 % 256), .int .u8 (x / 65536 % 256), .int .u8 (x / 256 % 256), .int .u8 (x % 256)] 5)) := fun W => by go_simp
              have HB1 := Lib.hid hb1
              clear hb1
              refine wp_region_X 25 (by kernel_rfl) (by kernel_rfl) ?_
              simp only [List.take_succ_cons, List.take_zero, List.drop_succ_cons, List.drop_zero]
              intro w1 hw1
              have L : ∀ m : Lt w1, Ext wr m.1 := fun m => hw1.tr m.2
              have xs' : ∀ m : Lt w1, m.1.cell? ⟨bs, os + j, none⟩ = some (.int .u32 x) := fun m => ((L m).cell (World.block_lt_of_cell? wr _ cst)).trans cst
              repeat (refine wpX_pure rfl rfl rfl rfl rfl (fun K hK => ?_); go_big_quiet_op; refine hK _ ?_; clear hK K)
              refine wpX_build 0 (Nat.zero_le _) HB1.out rfl rfl rfl rfl rfl rfl rfl ?_
              simp only [Act.put, List.setIfInBounds_toArray, List.set_cons_zero, List.set_cons_succ]
              repeat (refine wpX_pure rfl rfl rfl rfl rfl (fun K hK => ?_); go_big_quiet_op; refine hK _ ?_; clear hK K)
              refine wpX_end1 (fun m u1 hu => ?_)
              simp only [Act.put, List.setIfInBounds_toArray, List.set_cons_zero, List.set_cons_succ]
              have r4 : Rd m.1 u1 (bvs (be4 x)) := by rw [bvs_be4]; exact hu.rd
              have Lm := L m
              obtain ⟨wy, hwy⟩ := m
              clear xs' L
              go_wp2_with (refine appB (o8.ext Lm) r4 (b8.trans (Lm.mono b8.size)) (by rw [bytes8_length]; simp [be4]; omega) (Nat.le_trans b8.size Lm.size) rfl rfl rfl rfl ?_; intro A9 n9 c9 w9 hn9 o9 b9 g9)
              go_roundw
              case rel => exact ⟨j + 1, A9, n9, c9, by omega, by go_num, rfl, (show _ = _ by have := hn9.out; rw [bytes8_length, List.length_take, states_length] at this; simp [be4] at this; omega), by rw [bytes8_step (by rw [states_length]; exact hj8), ← HX.out]; exact o9, b9⟩
              case measure => simp [intOf]; omega
            · obtain rfl : j = 8 := by omega
              simp only [Int.cast_ofNat_Int]
              have e8 : bytes8 ((states p k).take 8) = sha xs := by
                rw [List.take_of_length_le (by rw [states_length]; exact Nat.le_refl _), HM.out, HP.out]; rfl
              rw [e8] at o8
              have hxs3 : Rd wr (.slice A2 n2 c2) (bvs xs) := (hxs2.ext b6).ext b8
              have hk3 : KTab wr 0 := (hkk.below b6).below b8
              go_wp2_with (first
                | (go_at_call 21; refine (awake4_any _ hk3).mono ?_; rintro e w10 ⟨rfl, b10⟩)
                | (go_at_call 28; refine (digsum_any _ (hxs3.ext b10) (by omega) (hk3.below b10)).mono ?_; rintro e w11 ⟨A11, n11, c11, rfl, hn11, o11, b11⟩)
                | (go_at_call 22; refine (same_any _ o11.rd ((o8.rd.ext b10).ext b11)).mono ?_; rw [decide_eq_true rfl]; rintro e w12 ⟨rfl, b12⟩))
              go_ret
              exact ⟨rfl, ((((hw5.tr b6).tr b8).tr b10).tr b11).tr b12⟩
end Go.Proofs.YteihfboomegpkaaDoor
