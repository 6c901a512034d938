/- Parts Wd6 Wd7 of the proof. -/
import Derived.Test.YthbpdhanljpigaaGreatDoorVak
import Derived.Deep.OwnRows
import Derived.Test.YthbpdhanljpigaaGreatDoorVac
import Derived.Test.YthbpdhanljpigaaGreatDoorVag
namespace Go.Proofs.YthbpdhanljpigaaGreatDoor
open Go.RowKit
set_option linter.unusedVariables false
theorem World.rowIs.drewN_ {w : World} {b : Nat} {t : TypeId} {n : Nat} {f : Nat → Value} (h : w.rowIs b t n f) (k : Nat) : (w.drewN k).rowIs b t n f := h

theorem word4_u32 {a b c d : Int} (ha : 0 ≤ a ∧ a < 256) (hb : 0 ≤ b ∧ b < 256) (hc : 0 ≤ c ∧ c < 256) (hd : 0 ≤ d ∧ d < 256) : U32 (word4 a b c d) :=
  or_u32 (or_u32 (or_u32 ⟨by omega, by omega⟩ ⟨by omega, by omega⟩) ⟨by omega, by omega⟩) ⟨by omega, by omega⟩
theorem schedW_u32 (l : List UInt8) (t : Nat) (ht : t < 64) : U32 (schedW l t) := by
  by_cases h : t < 16
  · rw [schedW_lo l h]
    exact word4_u32 ⟨byteI_lo _ _, byteI_hi _ _⟩ ⟨byteI_lo _ _, byteI_hi _ _⟩ ⟨byteI_lo _ _, byteI_hi _ _⟩ ⟨byteI_lo _ _, byteI_hi _ _⟩
  · rw [schedW_hi l (by omega) ht]
    exact ⟨by unfold nextW; omega, by unfold nextW; omega⟩

def S8.at (r : S8) (i : Nat) : Int := [r.a, r.b, r.c, r.d, r.e, r.f, r.g, r.h].getD i 0
def S8.u32 (r : S8) : Prop := U32 r.a ∧ U32 r.b ∧ U32 r.c ∧ U32 r.d ∧ U32 r.e ∧ U32 r.f ∧ U32 r.g ∧ U32 r.h
theorem mod_u32 (x : Int) : U32 (x % 4294967296) := ⟨by omega, by omega⟩
theorem roundsF_u32 (l : List UInt8) {r : S8} (h : r.u32) : ∀ t, (roundsF l r t).u32
  | 0 => h
  | t + 1 => by
    obtain ⟨ha, hb, hc, hd, he, hf, hg, hh⟩ := roundsF_u32 l h t
    exact ⟨mod_u32 _, ha, hb, hc, mod_u32 _, he, hf, hg⟩

set_option maxRecDepth 100000 in
set_option maxHeartbeats 2000000 in
theorem digcomp_any {st blk : Value} {s : List Int} {l : List UInt8} (w : World) (hs : RdI w .u32 st s) (hb : Rd w blk (bvs l)) (h8 : s.length = 8) (h64 : l.length = 64) (hk : KTab w 2) (hu : (s8of s).u32) :
    Calls Tryz.prog 100 #[st, blk] w (RetC w (comp s l)) := by
  obtain ⟨A, n, c, rfl, hn, hnc, hcm, hA⟩ := hs.ints
  obtain ⟨A2, n2, c2, rfl, hn2, hnc2, hcm2, hB⟩ := hb.bytes
  rw [h8] at hn
  rw [h64] at hn2
  subst hn hn2
  obtain ⟨b1, o1, rfl, hb1, hA1⟩ := hA (by omega)
  obtain ⟨b2, o2, rfl, hb2, hB1⟩ := hB (by omega)
  have HA := Lib.hid hA1
  have HB := Lib.hid hB1
  have HK := Lib.hid hk
  have hg := hk.lt
  have H64 := Lib.hid h64
  have HU := Lib.hid hu
  clear hA hB hA1 hB1 hk hs hb h8 h64 hu
  go_enter Tryz.func100, Tryz.ntmps100
  go_wp2
  go_loopw [27] (fun i wr => ∃ t : Nat, t ≤ 64 ∧ i = .int .i64 t ∧ wr.rowIs w.heap.size 169 64 (fun i => .int .u32 (if i < t then schedW l i else 0)) ∧ Below w.heap.size w wr) (fun i _ => 64 - (intOf i).toNat)
  case atStart =>
    refine ⟨0, by omega, rfl, ?_, (Below.refl _ _).alloc (Nat.le_refl _) _⟩
    refine World.rowIs_alloc _ _ _ _ ?_
    intro i hi
    match i, hi with
    | 0, _ => rfl
    | 1, _ => rfl
    | 2, _ => rfl
    | 3, _ => rfl
    | 4, _ => rfl
    | 5, _ => rfl
    | 6, _ => rfl
    | 7, _ => rfl
    | 8, _ => rfl
    | 9, _ => rfl
    | 10, _ => rfl
    | 11, _ => rfl
    | 12, _ => rfl
    | 13, _ => rfl
    | 14, _ => rfl
    | 15, _ => rfl
    | 16, _ => rfl
    | 17, _ => rfl
    | 18, _ => rfl
    | 19, _ => rfl
    | 20, _ => rfl
    | 21, _ => rfl
    | 22, _ => rfl
    | 23, _ => rfl
    | 24, _ => rfl
    | 25, _ => rfl
    | 26, _ => rfl
    | 27, _ => rfl
    | 28, _ => rfl
    | 29, _ => rfl
    | 30, _ => rfl
    | 31, _ => rfl
    | 32, _ => rfl
    | 33, _ => rfl
    | 34, _ => rfl
    | 35, _ => rfl
    | 36, _ => rfl
    | 37, _ => rfl
    | 38, _ => rfl
    | 39, _ => rfl
    | 40, _ => rfl
    | 41, _ => rfl
    | 42, _ => rfl
    | 43, _ => rfl
    | 44, _ => rfl
    | 45, _ => rfl
    | 46, _ => rfl
    | 47, _ => rfl
    | 48, _ => rfl
    | 49, _ => rfl
    | 50, _ => rfl
    | 51, _ => rfl
    | 52, _ => rfl
    | 53, _ => rfl
    | 54, _ => rfl
    | 55, _ => rfl
    | 56, _ => rfl
    | 57, _ => rfl
    | 58, _ => rfl
    | 59, _ => rfl
    | 60, _ => rfl
    | 61, _ => rfl
    | 62, _ => rfl
    | 63, _ => rfl
    | i + 64, h => exact absurd (show i + 64 < 64 from h) (by omega)
  case round =>
    obtain ⟨t, ht, rfl, hrow, hbel⟩ := hrel
    by_cases h16 : t < 16
    · skip
      have cs := hrow.cell (i := t) (by omega)
      have fs := hrow.frozen t
      have wi1 : IntKind.i64.wrap (4 * (t : Int)) = 4 * (t : Int) := IntWalk.i64_in _ (by omega)
      have zi1 : (0 : Int) ≤ 4 * (t : Int) := by omega
      have li1 : 4 * (t : Int) < 64 := by omega
      have ti1 : (4 * (t : Int)).toNat = 4 * t := by omega
      have wi2 : IntKind.i64.wrap ((t : Int)) = (t : Int) := IntWalk.i64_in _ (by omega)
      have zi2 : (0 : Int) ≤ (t : Int) := by omega
      have li2 : (t : Int) < 64 := by omega
      have ti2 : ((t : Int)).toNat = t := by omega
      have hcap : 4 * t < c2 := by omega
      have hword : ∀ n, Rd (wr.drewN n) (.slice (some ⟨b2, o2 + 4 * t, none⟩) (64 - 4 * t) (c2 - 4 * t)) (bvs (l.drop (4 * t))) := fun n =>
        Rd.mkB (by rw [List.length_drop, H64.out]) (by omega) (by omega) (fun j hj => by
          rw [byteI_drop, Nat.add_assoc]
          exact (hbel.cell (p := ⟨b2, o2 + (4 * t + j), none⟩) hb2).trans (HB.out (4 * t + j) (by omega)))
      have HW := Lib.hid hword
      clear hword
      go_wp2_with (go_at_call 148; refine (word_any _ (HW.out 0) (by rw [List.length_drop, H64.out]; omega)).mono ?_; rintro e w' ⟨rfl, nw, rfl⟩)
      go_roundw
      case rel =>
        refine ⟨t + 1, by omega, by go_num, (World.rowIs.set (w := wr.drewN nw) hrow t _).congr ?_, (Below.drewN_ hbel nw).setCell (Nat.le_refl _) _⟩
        intro i hi
        by_cases hit : i = t
        · subst hit
          simp only [if_pos, Nat.lt_succ_self, schedW_lo l h16, wordAt_drop]
        · have : (i < t + 1) = (i < t) := by simp; omega
          simp only [hit, this, if_neg, not_false_eq_true]
      case measure => simp [intOf]; omega
    · by_cases hlt : t < 64
      · skip
        have hrow' : ∀ i, i < t → wr.cell? ⟨w.heap.size, i, none⟩ = some (.int .u32 (schedW l i)) := fun i hi => by
          have := hrow.cell (i := i) (by omega)
          simpa [hi] using this
        have c2 := hrow' (t - 2) (by omega)
        have c7 := hrow' (t - 7) (by omega)
        have c15 := hrow' (t - 15) (by omega)
        have c16 := hrow' (t - 16) (by omega)
        have cs := hrow.cell (i := t) (by omega)
        have fs := hrow.frozen t
        have wi3 : IntKind.i64.wrap ((t : Int) - 2) = (t : Int) - 2 := IntWalk.i64_in _ (by omega)
        have zi3 : (0 : Int) ≤ (t : Int) - 2 := by omega
        have li3 : (t : Int) - 2 < 64 := by omega
        have ti3 : ((t : Int) - 2).toNat = t - 2 := by omega
        have wi4 : IntKind.i64.wrap ((t : Int) - 7) = (t : Int) - 7 := IntWalk.i64_in _ (by omega)
        have zi4 : (0 : Int) ≤ (t : Int) - 7 := by omega
        have li4 : (t : Int) - 7 < 64 := by omega
        have ti4 : ((t : Int) - 7).toNat = t - 7 := by omega
        have wi5 : IntKind.i64.wrap ((t : Int) - 15) = (t : Int) - 15 := IntWalk.i64_in _ (by omega)
        have zi5 : (0 : Int) ≤ (t : Int) - 15 := by omega
        have li5 : (t : Int) - 15 < 64 := by omega
        have ti5 : ((t : Int) - 15).toNat = t - 15 := by omega
        have wi6 : IntKind.i64.wrap ((t : Int) - 16) = (t : Int) - 16 := IntWalk.i64_in _ (by omega)
        have zi6 : (0 : Int) ≤ (t : Int) - 16 := by omega
        have li6 : (t : Int) - 16 < 64 := by omega
        have ti6 : ((t : Int) - 16).toNat = t - 16 := by omega
        have wi7 : IntKind.i64.wrap ((t : Int)) = (t : Int) := IntWalk.i64_in _ (by omega)
        have zi7 : (0 : Int) ≤ (t : Int) := by omega
        have li7 : (t : Int) < 64 := by omega
        have ti7 : ((t : Int)).toNat = t := by omega
        clear hrow'
        have k7 : (7 : Int) ≤ (t : Int) := by omega
        have k16 : (16 : Int) ≤ (t : Int) := by omega
        go_wp2
        go_quiet (fail)
        go_wp2
        have hb1 : ∀ W : World, (Instr.buildSlice 22 2 #[(0, .int .i64 17), (1, .int .i64 19)]).run Tryz.prog W = .ok (.slice (some ⟨W.heap.size, 0, none⟩) 2 2) (W.alloc (.cells #[.int .i64 17, .int .i64 19] 3)) := fun W => by go_simp
        have hb2 : ∀ W : World, (Instr.buildSlice 22 2 #[(0, .int .i64 7), (1, .int .i64 18)]).run Tryz.prog W = .ok (.slice (some ⟨W.heap.size, 0, none⟩) 2 2) (W.alloc (.cells #[.int .i64 7, .int .i64 18] 3)) := fun W => by go_simp
        have HB1 := Lib.hid hb1
        have HB2 := Lib.hid hb2
        clear hb1 hb2
        refine Gd.wp_region_X 27 (by kernel_rfl) (by kernel_rfl) ?_
        simp only [List.take_succ_cons, List.take_zero, List.drop_succ_cons, List.drop_zero]
        intro w1 hw1
        have L : ∀ m : Lt w1, Ext wr m.1 := fun m => ((Ext.drewN_ wr nq).tr hw1).tr m.2
        have x7 : ∀ m : Lt w1, m.1.cell? ⟨w.heap.size, t - 7, none⟩ = some (.int .u32 (schedW l (t - 7))) := fun m => ((L m).cell hrow.lt).trans c7
        have x16 : ∀ m : Lt w1, m.1.cell? ⟨w.heap.size, t - 16, none⟩ = some (.int .u32 (schedW l (t - 16))) := fun m => ((L m).cell hrow.lt).trans c16
        repeat (refine Gd.wpX_pureP rfl fun K hK => ?_; go_big_quiet_op; refine hK _ ?_; clear hK K)
        refine Gd.wpX_build (Gd.gR rfl) 0 (Nat.zero_le _) HB1.out rfl rfl rfl rfl rfl rfl rfl ?_
        simp only [Act.put, List.setIfInBounds_toArray, List.set_cons_zero, List.set_cons_succ]
        refine Gd.wpX_callUse (Gd.gR rfl) 50 _ (.int .u32 (rotF (schedW l (t - 2)) [17, 19])) (fun u => [.int .u32 (schedW l (t - 2)), u]) rfl rfl rfl rfl rfl rfl rfl (fun u => rfl) (by kernel_rfl) (fun u => rfl) (fun m u hu => (rot_any (ns := [17, 19]) _ _ hu.rd (by decide)).mono fun e w'' ⟨h1, h2⟩ => ⟨h1, by rw [h2]; exact Below.refl _ _⟩) ?_
        simp only [Act.put, List.setIfInBounds_toArray, List.set_cons_zero, List.set_cons_succ]
        repeat (refine Gd.wpX_pureP rfl fun K hK => ?_; go_big_quiet_op; refine hK _ ?_; clear hK K)
        refine Gd.wpX_build (Gd.gR rfl) 0 (Nat.zero_le _) HB2.out rfl rfl rfl rfl rfl rfl rfl ?_
        simp only [Act.put, List.setIfInBounds_toArray, List.set_cons_zero, List.set_cons_succ]
        refine Gd.wpX_callUse (Gd.gR rfl) 62 _ (.int .u32 (rotF (schedW l (t - 15)) [7, 18])) (fun u => [.int .u32 (schedW l (t - 15)), u]) rfl rfl rfl rfl rfl rfl rfl (fun u => rfl) (by kernel_rfl) (fun u => rfl) (fun m u hu => (rot_any (ns := [7, 18]) _ _ hu.rd (by decide)).mono fun e w'' ⟨h1, h2⟩ => ⟨h1, by rw [h2]; exact Below.refl _ _⟩) ?_
        simp only [Act.put, List.setIfInBounds_toArray, List.set_cons_zero, List.set_cons_succ]
        repeat (refine Gd.wpX_pureP rfl fun K hK => ?_; go_big_quiet_op; refine hK _ ?_; clear hK K)
        refine Gd.wpX_end2 (by decide) (fun m u1 u2 _ _ => ?_)
        simp only [Act.put, List.setIfInBounds_toArray, List.set_cons_zero, List.set_cons_succ]
        have Lm := L m
        obtain ⟨wx, hwx⟩ := m
        have hrx := hrow.of_block (Lm.block _ hrow.lt)
        have hbx : Below w.heap.size w wx := hbel.trans (Lm.mono hbel.size)
        have cs := hrx.cell (i := t) (by omega)
        have fs := hrx.frozen t
        clear x7 x16 L Lm
        go_wp2
        go_roundw
        case rel =>
          refine ⟨t + 1, by omega, by go_num, (World.rowIs.set hrx t _).congr ?_, hbx.setCell (Nat.le_refl _) _⟩
          intro i hi
          by_cases hit : i = t
          · subst hit
            simp only [if_pos, Nat.lt_succ_self, schedW_hi l (by omega) hlt, nextW, sm1, sm0, rotF_two (schedW_u32 l (i - 2) (by omega)), rotF_two (schedW_u32 l (i - 15) (by omega))]
          · have : (i < t + 1) = (i < t) := by simp; omega
            simp only [hit, this, if_neg, not_false_eq_true]
        case measure => simp [intOf]; omega
      · obtain rfl : t = 64 := by omega
        simp only [Int.cast_ofNat_Int]
        clear hlt ht h16
        have hW : Hid (∀ i, i < 64 → wr.cell? ⟨w.heap.size, i, none⟩ = some (.int .u32 (schedW l i))) := fun i hi => by
          have := hrow.cell (i := i) (by omega)
          simpa [hi] using this
        have hwlt := hrow.lt
        clear hrow
        have p0 := (hbel.cell (p := ⟨b1, o1 + 0, none⟩) hb1).trans (HA.out 0 (by omega))
        obtain ⟨x0, hx0⟩ : ∃ x, x = s.getD 0 0 := ⟨_, rfl⟩
        rw [← hx0] at p0
        have HX0 := Lib.hid hx0
        clear hx0
        have p1 := (hbel.cell (p := ⟨b1, o1 + 1, none⟩) hb1).trans (HA.out 1 (by omega))
        obtain ⟨x1, hx1⟩ : ∃ x, x = s.getD 1 0 := ⟨_, rfl⟩
        rw [← hx1] at p1
        have HX1 := Lib.hid hx1
        clear hx1
        have p2 := (hbel.cell (p := ⟨b1, o1 + 2, none⟩) hb1).trans (HA.out 2 (by omega))
        obtain ⟨x2, hx2⟩ : ∃ x, x = s.getD 2 0 := ⟨_, rfl⟩
        rw [← hx2] at p2
        have HX2 := Lib.hid hx2
        clear hx2
        have p3 := (hbel.cell (p := ⟨b1, o1 + 3, none⟩) hb1).trans (HA.out 3 (by omega))
        obtain ⟨x3, hx3⟩ : ∃ x, x = s.getD 3 0 := ⟨_, rfl⟩
        rw [← hx3] at p3
        have HX3 := Lib.hid hx3
        clear hx3
        have p4 := (hbel.cell (p := ⟨b1, o1 + 4, none⟩) hb1).trans (HA.out 4 (by omega))
        obtain ⟨x4, hx4⟩ : ∃ x, x = s.getD 4 0 := ⟨_, rfl⟩
        rw [← hx4] at p4
        have HX4 := Lib.hid hx4
        clear hx4
        have p5 := (hbel.cell (p := ⟨b1, o1 + 5, none⟩) hb1).trans (HA.out 5 (by omega))
        obtain ⟨x5, hx5⟩ : ∃ x, x = s.getD 5 0 := ⟨_, rfl⟩
        rw [← hx5] at p5
        have HX5 := Lib.hid hx5
        clear hx5
        have p6 := (hbel.cell (p := ⟨b1, o1 + 6, none⟩) hb1).trans (HA.out 6 (by omega))
        obtain ⟨x6, hx6⟩ : ∃ x, x = s.getD 6 0 := ⟨_, rfl⟩
        rw [← hx6] at p6
        have HX6 := Lib.hid hx6
        clear hx6
        have p7 := (hbel.cell (p := ⟨b1, o1 + 7, none⟩) hb1).trans (HA.out 7 (by omega))
        obtain ⟨x7, hx7⟩ : ∃ x, x = s.getD 7 0 := ⟨_, rfl⟩
        rw [← hx7] at p7
        have HX7 := Lib.hid hx7
        clear hx7
        simp only [Nat.add_zero] at p0
        obtain ⟨wa, hwa⟩ : ∃ x, x = wr := ⟨_, rfl⟩
        subst hwa
        have harr : (Instr.arrayAt 171 (.slice (some ⟨b1, o1, none⟩) 8 c)).run Tryz.prog wa = .ok (.pointer (some ⟨b1, o1, none⟩)) wa := by unfold Instr.arrayAt; go_simp
        go_wp2
        go_loopw [78] (fun i wx => ∃ (t : Nat) (r : S8), t ≤ 64 ∧ i = .int .i64 t ∧ r = roundsF l (s8of s) t ∧ wx.rowIs wa.heap.size 171 8 (fun i => .int .u32 (r.at i)) ∧ Below wa.heap.size wa wx) (fun i _ => 64 - (intOf i).toNat)
        case atStart =>
          refine ⟨0, s8of s, by omega, rfl, rfl, ?_, (Below.refl _ _).alloc (Nat.le_refl _) _⟩
          refine World.rowIs_alloc _ _ _ _ ?_
          rw [HX0.out, HX1.out, HX2.out, HX3.out, HX4.out, HX5.out, HX6.out, HX7.out]
          intro i hi
          match i, hi with
          | 0, _ => rfl
          | 1, _ => rfl
          | 2, _ => rfl
          | 3, _ => rfl
          | 4, _ => rfl
          | 5, _ => rfl
          | 6, _ => rfl
          | 7, _ => rfl
          | i + 8, h => exact absurd (show i + 8 < 8 from h) (by omega)
        case round =>
          obtain ⟨t, r, ht, rfl, hr, hrow, hbx⟩ := hrel
          have HR := Lib.hid hr
          clear hr
          by_cases hlt : t < 64
          · have cw := (hbx.cell (p := ⟨w.heap.size, t, none⟩) hwlt).trans (hW.out t hlt)
            have hk1 := HK.out.below hbel
            have hk2 := hk1.below hbx
            have ck := hk2 t hlt
            have c0 : wr.cell? ⟨wa.heap.size, 0, none⟩ = some (.int .u32 r.a) := hrow.cell (i := 0) (by omega)
            have f0 := hrow.frozen 0
            have c1 : wr.cell? ⟨wa.heap.size, 1, none⟩ = some (.int .u32 r.b) := hrow.cell (i := 1) (by omega)
            have f1 := hrow.frozen 1
            have c2 : wr.cell? ⟨wa.heap.size, 2, none⟩ = some (.int .u32 r.c) := hrow.cell (i := 2) (by omega)
            have f2 := hrow.frozen 2
            have c3 : wr.cell? ⟨wa.heap.size, 3, none⟩ = some (.int .u32 r.d) := hrow.cell (i := 3) (by omega)
            have f3 := hrow.frozen 3
            have c4 : wr.cell? ⟨wa.heap.size, 4, none⟩ = some (.int .u32 r.e) := hrow.cell (i := 4) (by omega)
            have f4 := hrow.frozen 4
            have c5 : wr.cell? ⟨wa.heap.size, 5, none⟩ = some (.int .u32 r.f) := hrow.cell (i := 5) (by omega)
            have f5 := hrow.frozen 5
            have c6 : wr.cell? ⟨wa.heap.size, 6, none⟩ = some (.int .u32 r.g) := hrow.cell (i := 6) (by omega)
            have f6 := hrow.frozen 6
            have c7 : wr.cell? ⟨wa.heap.size, 7, none⟩ = some (.int .u32 r.h) := hrow.cell (i := 7) (by omega)
            have f7 := hrow.frozen 7
            have wi8 : IntKind.i64.wrap ((t : Int)) = (t : Int) := IntWalk.i64_in _ (by omega)
            have zi8 : (0 : Int) ≤ (t : Int) := by omega
            have li8 : (t : Int) < 64 := by omega
            have ti8 : ((t : Int)).toNat = t := by omega
            go_wp2
            go_quiet (fail)
            go_wp2
            have hb1 : ∀ W : World, (Instr.buildSlice 22 3 #[(0, .int .i64 6), (1, .int .i64 11), (2, .int .i64 25)]).run Tryz.prog W = .ok (.slice (some ⟨W.heap.size, 0, none⟩) 3 3) (W.alloc (.cells #[.int .i64 6, .int .i64 11, .int .i64 25] 3)) := fun W => by go_simp
            have hb2 : ∀ W : World, (Instr.buildSlice 22 3 #[(0, .int .i64 2), (1, .int .i64 13), (2, .int .i64 22)]).run Tryz.prog W = .ok (.slice (some ⟨W.heap.size, 0, none⟩) 3 3) (W.alloc (.cells #[.int .i64 2, .int .i64 13, .int .i64 22] 3)) := fun W => by go_simp
            have HB1 := Lib.hid hb1
            have HB2 := Lib.hid hb2
            clear hb1 hb2
            refine Gd.wp_region_X 27 (by kernel_rfl) (by kernel_rfl) ?_
            simp only [List.take_succ_cons, List.take_zero, List.drop_succ_cons, List.drop_zero]
            intro w1 hw1
            have L : ∀ m : Lt w1, Ext wr m.1 := fun m => ((Ext.drewN_ wr nq).tr hw1).tr m.2
            have x0 : ∀ m : Lt w1, m.1.cell? ⟨wa.heap.size, 0, none⟩ = some (.int .u32 r.a) := fun m => ((L m).cell hrow.lt).trans c0
            have x1 : ∀ m : Lt w1, m.1.cell? ⟨wa.heap.size, 1, none⟩ = some (.int .u32 r.b) := fun m => ((L m).cell hrow.lt).trans c1
            have x2 : ∀ m : Lt w1, m.1.cell? ⟨wa.heap.size, 2, none⟩ = some (.int .u32 r.c) := fun m => ((L m).cell hrow.lt).trans c2
            have x3 : ∀ m : Lt w1, m.1.cell? ⟨wa.heap.size, 3, none⟩ = some (.int .u32 r.d) := fun m => ((L m).cell hrow.lt).trans c3
            have x4 : ∀ m : Lt w1, m.1.cell? ⟨wa.heap.size, 4, none⟩ = some (.int .u32 r.e) := fun m => ((L m).cell hrow.lt).trans c4
            have x5 : ∀ m : Lt w1, m.1.cell? ⟨wa.heap.size, 5, none⟩ = some (.int .u32 r.f) := fun m => ((L m).cell hrow.lt).trans c5
            have x6 : ∀ m : Lt w1, m.1.cell? ⟨wa.heap.size, 6, none⟩ = some (.int .u32 r.g) := fun m => ((L m).cell hrow.lt).trans c6
            have x7 : ∀ m : Lt w1, m.1.cell? ⟨wa.heap.size, 7, none⟩ = some (.int .u32 r.h) := fun m => ((L m).cell hrow.lt).trans c7
            have xw : ∀ m : Lt w1, m.1.cell? ⟨w.heap.size, t, none⟩ = some (.int .u32 (schedW l t)) := fun m => ((L m).cell (Nat.lt_of_lt_of_le hwlt hbx.size)).trans cw
            have xk : ∀ m : Lt w1, m.1.cell? ⟨2, t, none⟩ = some (.int .u32 (kAt t)) := fun m => ((L m).cell hk2.lt).trans ck
            repeat (refine Gd.wpX_pureP rfl fun K hK => ?_; go_big_quiet_op; refine hK _ ?_; clear hK K)
            refine Gd.wpX_build (Gd.gR rfl) 0 (Nat.zero_le _) HB1.out rfl rfl rfl rfl rfl rfl rfl ?_
            simp only [Act.put, List.setIfInBounds_toArray, List.set_cons_zero, List.set_cons_succ]
            refine Gd.wpX_callUse (Gd.gR rfl) 89 _ (.int .u32 (rotF r.e [6, 11, 25])) (fun u => [.int .u32 r.e, u]) rfl rfl rfl rfl rfl rfl rfl (fun u => rfl) (by kernel_rfl) (fun u => rfl) (fun m u hu => (rot_any (ns := [6, 11, 25]) _ _ hu.rd (by decide)).mono fun e w'' ⟨h1, h2⟩ => ⟨h1, by rw [h2]; exact Below.refl _ _⟩) ?_
            simp only [Act.put, List.setIfInBounds_toArray, List.set_cons_zero, List.set_cons_succ]
            repeat (refine Gd.wpX_pureP rfl fun K hK => ?_; go_big_quiet_op; refine hK _ ?_; clear hK K)
            refine Gd.wpX_end1 (fun m u1 _ => ?_)
            simp only [Act.put, List.setIfInBounds_toArray, List.set_cons_zero, List.set_cons_succ]
            have Lm := L m
            obtain ⟨wy, hwy⟩ := m
            have hry := hrow.of_block (Lm.block _ hrow.lt)
            have hby : Below wa.heap.size wa wy := hbx.trans (Lm.mono hbx.size)
            clear x0 x1 x2 x3 x4 x5 x6 x7 xw xk L Lm c0 c1 c2 c3 c4 c5 c6 c7 cw ck
            go_wp2
            refine Gd.wp_region_X 21 (by kernel_rfl) (by kernel_rfl) ?_
            simp only [List.take_succ_cons, List.take_zero, List.drop_succ_cons, List.drop_zero]
            intro w1 hw1
            have L : ∀ m : Lt w1, Ext wy m.1 := fun m => hw1.tr m.2
            have x0 : ∀ m : Lt w1, m.1.cell? ⟨wa.heap.size, 0, none⟩ = some (.int .u32 r.a) := fun m => (hry.of_block ((L m).block _ hry.lt)).cell (i := 0) (by omega)
            have x1 : ∀ m : Lt w1, m.1.cell? ⟨wa.heap.size, 1, none⟩ = some (.int .u32 r.b) := fun m => (hry.of_block ((L m).block _ hry.lt)).cell (i := 1) (by omega)
            have x2 : ∀ m : Lt w1, m.1.cell? ⟨wa.heap.size, 2, none⟩ = some (.int .u32 r.c) := fun m => (hry.of_block ((L m).block _ hry.lt)).cell (i := 2) (by omega)
            have x3 : ∀ m : Lt w1, m.1.cell? ⟨wa.heap.size, 3, none⟩ = some (.int .u32 r.d) := fun m => (hry.of_block ((L m).block _ hry.lt)).cell (i := 3) (by omega)
            have x4 : ∀ m : Lt w1, m.1.cell? ⟨wa.heap.size, 4, none⟩ = some (.int .u32 r.e) := fun m => (hry.of_block ((L m).block _ hry.lt)).cell (i := 4) (by omega)
            have x5 : ∀ m : Lt w1, m.1.cell? ⟨wa.heap.size, 5, none⟩ = some (.int .u32 r.f) := fun m => (hry.of_block ((L m).block _ hry.lt)).cell (i := 5) (by omega)
            have x6 : ∀ m : Lt w1, m.1.cell? ⟨wa.heap.size, 6, none⟩ = some (.int .u32 r.g) := fun m => (hry.of_block ((L m).block _ hry.lt)).cell (i := 6) (by omega)
            have x7 : ∀ m : Lt w1, m.1.cell? ⟨wa.heap.size, 7, none⟩ = some (.int .u32 r.h) := fun m => (hry.of_block ((L m).block _ hry.lt)).cell (i := 7) (by omega)
            repeat (refine Gd.wpX_pureP rfl fun K hK => ?_; go_big_quiet_op; refine hK _ ?_; clear hK K)
            refine Gd.wpX_build (Gd.gR rfl) 0 (Nat.zero_le _) HB2.out rfl rfl rfl rfl rfl rfl rfl ?_
            simp only [Act.put, List.setIfInBounds_toArray, List.set_cons_zero, List.set_cons_succ]
            refine Gd.wpX_callUse (Gd.gR rfl) 113 _ (.int .u32 (rotF r.a [2, 13, 22])) (fun u => [.int .u32 r.a, u]) rfl rfl rfl rfl rfl rfl rfl (fun u => rfl) (by kernel_rfl) (fun u => rfl) (fun m u hu => (rot_any (ns := [2, 13, 22]) _ _ hu.rd (by decide)).mono fun e w'' ⟨h1, h2⟩ => ⟨h1, by rw [h2]; exact Below.refl _ _⟩) ?_
            simp only [Act.put, List.setIfInBounds_toArray, List.set_cons_zero, List.set_cons_succ]
            repeat (refine Gd.wpX_pureP rfl fun K hK => ?_; go_big_quiet_op; refine hK _ ?_; clear hK K)
            refine Gd.wpX_end1 (fun m u2 _ => ?_)
            simp only [Act.put, List.setIfInBounds_toArray, List.set_cons_zero, List.set_cons_succ]
            have Lm := L m
            obtain ⟨wz, hwz⟩ := m
            have hrz := hry.of_block (Lm.block _ hry.lt)
            have hbz : Below wa.heap.size wa wz := hby.trans (Lm.mono hby.size)
            clear x0 x1 x2 x3 x4 x5 x6 x7 L Lm
            have c0 : wz.cell? ⟨wa.heap.size, 0, none⟩ = some (.int .u32 r.a) := hrz.cell (i := 0) (by omega)
            have g0 := hrz.frozen 0
            have c1 : wz.cell? ⟨wa.heap.size, 1, none⟩ = some (.int .u32 r.b) := hrz.cell (i := 1) (by omega)
            have g1 := hrz.frozen 1
            have c2 : wz.cell? ⟨wa.heap.size, 2, none⟩ = some (.int .u32 r.c) := hrz.cell (i := 2) (by omega)
            have g2 := hrz.frozen 2
            have c3 : wz.cell? ⟨wa.heap.size, 3, none⟩ = some (.int .u32 r.d) := hrz.cell (i := 3) (by omega)
            have g3 := hrz.frozen 3
            have c4 : wz.cell? ⟨wa.heap.size, 4, none⟩ = some (.int .u32 r.e) := hrz.cell (i := 4) (by omega)
            have g4 := hrz.frozen 4
            have c5 : wz.cell? ⟨wa.heap.size, 5, none⟩ = some (.int .u32 r.f) := hrz.cell (i := 5) (by omega)
            have g5 := hrz.frozen 5
            have c6 : wz.cell? ⟨wa.heap.size, 6, none⟩ = some (.int .u32 r.g) := hrz.cell (i := 6) (by omega)
            have g6 := hrz.frozen 6
            have c7 : wz.cell? ⟨wa.heap.size, 7, none⟩ = some (.int .u32 r.h) := hrz.cell (i := 7) (by omega)
            have g7 := hrz.frozen 7
            go_wp2
            go_roundw
            case rel =>
              have hru : r.u32 := by rw [HR.out]; exact roundsF_u32 l HU.out t
              obtain ⟨hua, _, _, _, hue, _, _, _⟩ := hru
              rw [rotF_three hua, rotF_three hue]
              refine ⟨t + 1, roundF r (kAt t) (schedW l t), by omega, by go_num, by rw [roundsF, ← HR.out], (World.rowIs.set (World.rowIs.set (World.rowIs.set (World.rowIs.set (World.rowIs.set (World.rowIs.set (World.rowIs.set (World.rowIs.set hrz 0 _) 1 _) 2 _) 3 _) 4 _) 5 _) 6 _) 7 _).congr ?_, (((((((hbz.setCell (Nat.le_refl _) _).setCell (Nat.le_refl _) _).setCell (Nat.le_refl _) _).setCell (Nat.le_refl _) _).setCell (Nat.le_refl _) _).setCell (Nat.le_refl _) _).setCell (Nat.le_refl _) _).setCell (Nat.le_refl _) _⟩
              intro i hi
              match i, hi with
              | 0, _ =>
                show Value.int .u32 _ = Value.int .u32 (roundF r (kAt t) (schedW l t)).a
                simp only [roundF, t1F, t2F, bg0, bg1, chF, mjF]
              | 1, _ => rfl
              | 2, _ => rfl
              | 3, _ => rfl
              | 4, _ =>
                show Value.int .u32 _ = Value.int .u32 (roundF r (kAt t) (schedW l t)).e
                simp only [roundF, t1F, t2F, bg0, bg1, chF, mjF]
              | 5, _ => rfl
              | 6, _ => rfl
              | 7, _ => rfl
              | i + 8, h => exact absurd (show i + 8 < 8 from h) (by omega)
            case measure => simp [intOf]; omega
          · obtain rfl : t = 64 := by omega
            simp only [Int.cast_ofNat_Int]
            clear hlt ht
            obtain ⟨wb, hwb⟩ : ∃ x, x = wr := ⟨_, rfl⟩
            subst hwb
            have hmk : (Instr.makeSlice 118 (.int .i64 8) (.int .i64 8)).run Tryz.prog wb = .ok (.slice (some ⟨wb.heap.size, 0, none⟩) 8 8) (wb.alloc (.cells (madeCells #[.int .u32 0] 8) 125)) :=
              run_make_row' (P := Tryz.prog) 118 125 (.int .u32 0) 4 Tryz.underlying118 (by kernel_rfl) rfl .i64 .i64 8 (by decide) (by decide) wb
            have hm8 := World.rowIs_made wb (.int .u32 0) 8 125
            generalize madeCells #[Value.int .u32 0] 8 = mc at hmk hm8
            go_wp2
            go_loopw [155] (fun i wx => ∃ t : Nat, t ≤ 8 ∧ i = .int .i64 t ∧ wx.rowIs wb.heap.size 125 8 (fun i => .int .u32 (if i < t then (comp s l).getD i 0 else 0)) ∧ Below wb.heap.size wb wx) (fun i _ => 8 - (intOf i).toNat)
            case atStart => exact ⟨0, by omega, rfl, hm8.congr (fun i _ => rfl), (Below.refl _ _).alloc (Nat.le_refl _) _⟩
            case round =>
              obtain ⟨t, ht, rfl, hro, hbw⟩ := hrel
              have hb1a : b1 < wa.heap.size := Nat.lt_of_lt_of_le hb1 hbel.size
              by_cases hlt : t < 8
              · have cst := (hbw.cell (p := ⟨b1, o1 + t, none⟩) (Nat.lt_of_lt_of_le hb1a hbx.size)).trans ((hbx.cell hb1a).trans ((hbel.cell hb1).trans (HA.out t hlt)))
                have crt := (hbw.cell (p := ⟨wa.heap.size, t, none⟩) hrow.lt).trans (hrow.cell hlt)
                have cs := hro.cell (i := t) hlt
                have fs := hro.frozen t
                have wi9 : IntKind.i64.wrap ((t : Int)) = (t : Int) := IntWalk.i64_in _ (by omega)
                have zi9 : (0 : Int) ≤ (t : Int) := by omega
                have li9 : (t : Int) < 8 := by omega
                have ti9 : ((t : Int)).toNat = t := by omega
                go_wp2
                refine wp_region_qtail 11 (by kernel_rfl) (by kernel_rfl) ?_
                simp only [List.take_succ_cons, List.take_zero, List.drop_succ_cons, List.drop_zero]
                repeat (first | go_big_quiet_step (fail) | quiet_step (fail))
                refine wpQuiet_nil ?_
                intro _ hw'
                obtain ⟨nq, hw''⟩ := hw'
                subst hw''
                go_wp2
                go_roundw
                case rel =>
                  refine ⟨t + 1, by omega, by go_num, (World.rowIs.set (w := wr.drewN nq) hro t _).congr ?_, (Below.drewN_ hbw nq).setCell (Nat.le_refl _) _⟩
                  intro i hi
                  by_cases hit : i = t
                  · subst hit
                    simp only [if_pos, Nat.lt_succ_self]
                    rw [HR.out]
                    match i, hi with
                    | 0, _ => rfl
                    | 1, _ => rfl
                    | 2, _ => rfl
                    | 3, _ => rfl
                    | 4, _ => rfl
                    | 5, _ => rfl
                    | 6, _ => rfl
                    | 7, _ => rfl
                    | i + 8, h => exact absurd (show i + 8 < 8 from h) (by omega)
                  · have : (i < t + 1) = (i < t) := by simp; omega
                    simp only [hit, this, if_neg, not_false_eq_true]
                case measure => simp [intOf]; omega
              · obtain rfl : t = 8 := by omega
                simp only [Int.cast_ofNat_Int]
                go_wp2
                go_ret2
                refine ⟨_, _, rfl, ?_, (hbel.trans (hbx.mono hbel.size)).trans (hbw.mono (Nat.le_trans hbel.size hbx.size))⟩
                refine ⟨_, _, _, rfl, rfl, Nat.le_refl _, by unfold maxLen; omega, fun _ => ⟨_, 0, rfl, fun j u hu => ?_⟩⟩
                rw [List.getElem?_map, Option.map_eq_some_iff] at hu
                obtain ⟨x, hx, rfl⟩ := hu
                have hj : j < 8 := (List.getElem?_eq_some_iff.1 hx).1
                rw [Nat.zero_add, hro.cell hj, if_pos hj]
                simp [List.getD_eq_getElem?_getD, hx]
end Go.Proofs.YthbpdhanljpigaaGreatDoor
namespace Go.Proofs.YthbpdhanljpigaaGreatDoor
open Go.RowKit
set_option linter.unusedVariables false
theorem bytes8_step {s : List Int} {j : Nat} (h : j < s.length) : bytes8 (s.take (j + 1)) = bytes8 (s.take j) ++ be4 (s.getD j 0) := by
  unfold bytes8
  rw [List.take_succ_eq_append_getElem h, List.map_append, List.flatten_append]
  simp [List.getD_eq_getElem?_getD, h]
theorem bytes8_length (s : List Int) : (bytes8 s).length = 4 * s.length := by
  induction s with
  | nil => rfl
  | cons x r ih =>
    have : bytes8 (x :: r) = be4 x ++ bytes8 r := rfl
    rw [this, List.length_append, ih]
    simp [be4]; omega
theorem sha_length (l : List UInt8) : (sha l).length = 32 := by unfold sha; rw [bytes8_length, states_length]
theorem pad_blocks (l : List UInt8) : (pad l).length = 64 * ((pad l).length / 64) := by
  have := pad_mod l
  omega

end Go.Proofs.YthbpdhanljpigaaGreatDoor
