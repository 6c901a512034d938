/- Parts Rq Rr Rl Rm of the proof. -/
import Derived.Test.YteilglpdmfiinaaGreatDoorPkg
namespace Go.Proofs.YteilglpdmfiinaaGreatDoor
open Go.RowKit
set_option linter.unusedVariables false
set_option maxRecDepth 100000

/-- What the reference's tag returns. -/
def RTagR (w : World) (r : Option (Int × Nat)) (e : Ending) (w' : World) : Prop := Ext w w' ∧
  ((r = none ∧ ∃ x y k : Int, k ≠ 0 ∧ e = .returned (.tuple #[.int .i64 x, .int .i64 y, .int .i64 k])) ∨
   (∃ (t : Int) (k : Nat), r = some (t, k) ∧ e = .returned (.tuple #[.int .i64 t, .int .i64 (k : Int), .int .i64 0])))
theorem rtagR_no {w w' : World} {r : Option (Int × Nat)} {x y k : Int} (hk : k ≠ 0) (hr : r = none) (h : Ext w w') : RTagR w r (.returned (.tuple #[.int .i64 x, .int .i64 y, .int .i64 k])) w' := ⟨h, .inl ⟨hr, x, y, k, hk, rfl⟩⟩
theorem rtagR_yes {w w' : World} {r : Option (Int × Nat)} {t z : Int} (k : Nat) (hz : z = (k : Int)) (hr : r = some (t, k)) (h : Ext w w') : RTagR w r (.returned (.tuple #[.int .i64 t, .int .i64 z, .int .i64 0])) w' := ⟨h, .inr ⟨t, k, hr, by rw [hz]⟩⟩
theorem u8_rem (x : Int) (h0 : 0 ≤ x) : x.tmod 32 = x % 32 := Int.tmod_eq_emod_of_nonneg h0
set_option maxHeartbeats 2000000 in
theorem reftag_any {b : Value} {l : List UInt8} (w : World) (hb : Rd w b (bvs l)) : Calls Tryz.prog 183 #[b] w (RTagR w (tagP l)) := by
  obtain ⟨A, n, c, rfl, hn, hnc, hcm, hA⟩ := hb.bytes
  subst hn
  unfold maxLen at hcm
  clear hb
  obtain ⟨r, hr⟩ : ∃ r, tagP l = r := ⟨_, rfl⟩
  have hr2 := hr
  unfold tagP at hr2
  rw [hr]
  clear hr
  have HT := Lib.hid hr2
  clear hr2
  by_cases h1 : l.length < 1
  · have HN := Lib.hid (HT.out.symm.trans (if_pos h1))
    have h0 : l.length = 0 := by omega
    rw [h0]
    clear hA HT h1 hcm hnc h0
    go_enter Tryz.func183, Tryz.ntmps183
    go_wp2
    go_ret3
    exact rtagR_no (by decide) HN.out (Below.refl _ _)
  · have HT1 := Lib.hid (HT.out.symm.trans (if_neg h1))
    clear HT
    obtain ⟨bb, o, rfl, hbl, hcell⟩ := hA (by omega)
    have x0 := hcell 0 (by omega)
    have p0 := byteI_lo l 0
    have p1 := byteI_hi l 0
    have hl0 : 0 < l.length := by omega
    have hl0' : ((l.length : Int) == 0) = false := by rw [beq_eq_false_iff_ne]; omega
    have tm := u8_rem (byteI l 0) p0
    have HC := Lib.hid hcell
    clear hcell hA
    simp only [Nat.add_zero] at x0
    by_cases h2 : byteI l 0 % 32 = 31
    · have h2b : (byteI l 0 % 32 != 31) = false := by simp [h2]
      have HT2 := Lib.hid (HT1.out.trans (if_pos (show longT (byteI l 0) = true by simp [longT, h2])))
      clear HT1
      by_cases h3 : l.length < 2
      · have HN := Lib.hid (HT2.out.trans (if_pos h3))
        have h3' : (l.length : Int) < 2 := by omega
        clear HT2 h2
        go_enter Tryz.func183, Tryz.ntmps183
        go_wp2_with fail
        go_ret3
        exact rtagR_no (by decide) HN.out (Below.refl _ _)
      · have HT3 := Lib.hid (HT2.out.trans (if_neg h3))
        have h3' : ¬ (l.length : Int) < 2 := by omega
        have hl1 : 1 < l.length := by omega
        have x1 := HC.out 1 hl1
        have q0 := byteI_lo l 1
        have q1 := byteI_hi l 1
        have HV := Lib.hid (fun w => refvalid_any (byteI l 0 * 256 + byteI l 1) w (by omega) (by omega))
        have HE := Lib.hid (show byteI l 0 * 256 + byteI l 1 = 256 * byteI l 0 + byteI l 1 by omega)
        have ww : IntKind.i64.wrap (256 * byteI l 0) = 256 * byteI l 0 := IntWalk.i64_in _ (by omega)
        have wv : IntKind.i64.wrap (256 * byteI l 0 + byteI l 1) = 256 * byteI l 0 + byteI l 1 := IntWalk.i64_in _ (by omega)
        clear HT2 h2
        cases hv : validT (byteI l 0 * 256 + byteI l 1) with
        | false =>
          have HN := Lib.hid (HT3.out.trans (ifb_false hv))
          have HV2 := HV.out
          rw [hv, HE.out] at HV2
          have HV3 := Lib.hid HV2
          clear HV2 hv HV HT3
          go_enter Tryz.func183, Tryz.ntmps183
          go_wp2_with (go_quiet (fail))
          refine (HV3.out _).mono ?_
          rintro e w' ⟨rfl, rfl⟩
          go_wp2_with fail
          go_ret3
          exact rtagR_no (by decide) HN.out (Ext.drewN_ _ _)
        | true =>
          have HN := Lib.hid (HT3.out.trans (ifb_true hv))
          have HV2 := HV.out
          rw [hv, HE.out] at HV2
          rw [HE.out] at HN
          have HV3 := Lib.hid HV2
          clear HV2 hv HV HT3
          go_enter Tryz.func183, Tryz.ntmps183
          go_wp2_with (go_quiet (fail))
          refine (HV3.out _).mono ?_
          rintro e w' ⟨rfl, rfl⟩
          go_wp2_with fail
          go_ret3
          exact rtagR_yes 2 rfl HN.out (Ext.drewN_ _ _)
    · have h2b : (byteI l 0 % 32 != 31) = true := by simp [h2]
      have HT2 := Lib.hid (HT1.out.trans (if_neg (show ¬ longT (byteI l 0) = true by simp [longT, h2])))
      clear HT1 h1
      have hv : validT (byteI l 0) = decide (0 < byteI l 0) := by
        unfold validT
        rw [if_pos (by omega)]
        have : longT (byteI l 0) = false := by simp [longT, h2]
        rw [this]; simp
      by_cases h3 : byteI l 0 = 0
      · have HN := Lib.hid (HT2.out.trans (if_neg (by rw [hv, h3]; decide)))
        rw [h3] at x0 h2b tm
        clear HT2 hv h3 h2 p0 p1
        go_enter Tryz.func183, Tryz.ntmps183
        go_wp2_with fail
        go_ret3
        exact rtagR_no (by decide) HN.out (Below.refl _ _)
      · have HN := Lib.hid (HT2.out.trans (if_pos (by rw [hv]; simp; omega)))
        have h3b : (byteI l 0 == 0) = false := by simp [h3]
        clear HT2 hv h3 h2
        go_enter Tryz.func183, Tryz.ntmps183
        go_wp2_with fail
        go_ret3
        exact rtagR_yes 1 rfl HN.out (Below.refl _ _)
end Go.Proofs.YteilglpdmfiinaaGreatDoor

namespace Go.Proofs.YteilglpdmfiinaaGreatDoor
open Go.RowKit
set_option linter.unusedVariables false
set_option maxRecDepth 100000

theorem num_fold : ∀ (m : List UInt8) (n : Int), m.foldl (fun n c => 256 * n + (c.toNat : Int)) n = n * 256 ^ m.length + num m
  | [], n => by simp [num]
  | c :: m, n => by
    have h1 := num_fold m (256 * n + (c.toNat : Int))
    have h2 := num_fold m (256 * 0 + (c.toNat : Int))
    have e : num (c :: m) = m.foldl (fun n c => 256 * n + (c.toNat : Int)) (256 * 0 + (c.toNat : Int)) := rfl
    rw [List.foldl_cons, h1, e, h2, List.length_cons, Int.pow_succ]
    generalize (256 : Int) ^ m.length = p
    rw [Int.add_mul, Int.add_mul, Int.mul_comm 256 n, Int.mul_assoc, Int.mul_comm 256 p]
    omega
theorem num_cons (c : UInt8) (m : List UInt8) : num (c :: m) = (c.toNat : Int) * 256 ^ m.length + num m := by
  have h := num_fold m (256 * 0 + (c.toNat : Int))
  have e : num (c :: m) = m.foldl (fun n c => 256 * n + (c.toNat : Int)) (256 * 0 + (c.toNat : Int)) := rfl
  rw [e, h, Int.mul_zero, Int.zero_add]
theorem num_top {l : List UInt8} {k : Nat} (hk : k < l.length) : num (l.take (k + 1)) / 256 ^ k = byteI l 0 := by
  cases l with
  | nil => simp at hk
  | cons c m =>
    rw [List.take_succ_cons, num_cons]
    have hl : (m.take k).length = k := by rw [List.length_take]; simp only [List.length_cons] at hk; omega
    obtain ⟨h0, h1⟩ := num_bd _ (m.take k) hl
    rw [hl]
    have hp : (0 : Int) < 256 ^ k := by omega
    rw [Int.add_comm, Int.add_mul_ediv_right _ _ (by omega), Int.ediv_eq_zero_of_lt h0 h1]
    show 0 + _ = ((c.toNat : Nat) : Int)
    omega
def szE (l : List UInt8) : Int :=
  if l.length < 1 then 6 else if byteI l 0 < 128 then 0 else if 132 < byteI l 0 ∨ byteI l 0 = 128 then 5 else
  if l.length < 1 + (byteI l 0 - 128).toNat then 6 else
  if num ((l.drop 1).take (byteI l 0 - 128).toNat) < 128 ∨ num ((l.drop 1).take (byteI l 0 - 128).toNat) / 256 ^ ((byteI l 0 - 128).toNat - 1) = 0 then 5 else 0
def szN (l : List UInt8) : Int := match lenP l with
  | none => 0
  | some (n, _) => (n : Int)
def szK (l : List UInt8) : Int := match lenP l with
  | none => 0
  | some (_, k) => (k : Int)
def szV (l : List UInt8) : Value := .tuple #[.int .i64 (szN l), .int .i64 (szK l), .int .i64 (szE l)]
theorem szE_none {l : List UInt8} (h : lenP l = none) : szE l ≠ 0 := by
  unfold lenP at h
  unfold szE
  split at h
  · rename_i q; rw [if_pos q]; decide
  · rename_i q
    rw [if_neg q]
    split at h
    · cases h
    · rename_i q
      rw [if_neg q]
      split at h
      · rename_i q; rw [if_pos q]; decide
      · rename_i q
        rw [if_neg q]
        split at h
        · rename_i q; rw [if_pos q]; decide
        · rename_i q
          rw [if_neg q]
          split at h
          · rename_i q; rw [if_pos q]; decide
          · cases h
theorem szE_some {l : List UInt8} {n k : Nat} (h : lenP l = some (n, k)) : szE l = 0 := by
  unfold lenP at h
  unfold szE
  split at h
  · cases h
  · rename_i q
    rw [if_neg q]
    split at h
    · rename_i q; rw [if_pos q]
    · rename_i q
      rw [if_neg q]
      split at h
      · cases h
      · rename_i q
        rw [if_neg q]
        split at h
        · cases h
        · rename_i q
          rw [if_neg q]
          split at h
          · cases h
          · rename_i q; rw [if_neg q]
theorem szV_none {l : List UInt8} (k : Int) (h : lenP l = none) (hk : szE l = k) : szV l = .tuple #[.int .i64 0, .int .i64 0, .int .i64 k] := by
  unfold szV szN szK
  rw [h, hk]
theorem szV_some {l : List UInt8} {n k : Nat} (h : lenP l = some (n, k)) : szV l = .tuple #[.int .i64 (n : Int), .int .i64 (k : Int), .int .i64 0] := by
  have he := szE_some h
  unfold szV szN szK
  rw [h, he]
set_option maxHeartbeats 2000000 in
theorem refsize_short {b : Value} {l : List UInt8} (q : Bool) (w : World) (hb : Rd w b (bvs l)) (h : l.length < 1 ∨ byteI l 0 < 128 ∨ 132 < byteI l 0 ∨ byteI l 0 = 128 ∨ l.length < 1 + (byteI l 0 - 128).toNat) :
    Calls Tryz.prog 184 #[b, .bool q, .bool true] w fun e w' => e = .returned (szV l) ∧ w = w' := by
  obtain ⟨A, n, c, rfl, hn, hnc, hcm, hA⟩ := hb.bytes
  subst hn
  unfold maxLen at hcm
  clear hb
  have HH := Lib.hid h
  clear h
  by_cases h1 : l.length < 1
  · have HN := Lib.hid (szV_none (l := l) 6 (if_pos h1) (if_pos h1))
    have h0 : l.length = 0 := by omega
    rw [h0]
    clear hA HH h1 hcm hnc h0
    go_enter Tryz.func184, Tryz.ntmps184
    go_wp2
    go_ret3
    exact ⟨by rw [HN.out]; rfl, rfl⟩
  · obtain ⟨bb, o, rfl, hbl, hcell⟩ := hA (by omega)
    have x0 := hcell 0 (by omega)
    have p0 := byteI_lo l 0
    have p1 := byteI_hi l 0
    have hl0 : 0 < l.length := by omega
    have hl0' : ((l.length : Int) == 0) = false := by rw [beq_eq_false_iff_ne]; omega
    clear hcell hA
    simp only [Nat.add_zero] at x0
    by_cases h2 : byteI l 0 < 128
    · have HN := Lib.hid (szV_some (l := l) (n := (byteI l 0).toNat) (k := 1) ((if_neg h1).trans (if_pos h2)))
      have e0 : (((byteI l 0).toNat : Nat) : Int) = byteI l 0 := by omega
      rw [e0] at HN
      clear HH e0 h1
      go_enter Tryz.func184, Tryz.ntmps184
      go_wp2
      go_ret3
      exact ⟨by rw [HN.out]; rfl, rfl⟩
    · by_cases h3 : 132 < byteI l 0
      · have HN := Lib.hid (szV_none (l := l) 5 ((if_neg h1).trans ((if_neg h2).trans (if_pos (.inl h3)))) ((if_neg h1).trans ((if_neg h2).trans (if_pos (.inl h3)))))
        clear HH h1
        go_enter Tryz.func184, Tryz.ntmps184
        go_wp2
        go_ret3
        exact ⟨by rw [HN.out]; rfl, rfl⟩
      · by_cases h4 : byteI l 0 = 128
        · have HN := Lib.hid (szV_none (l := l) 5 ((if_neg h1).trans ((if_neg h2).trans (if_pos (.inr h4)))) ((if_neg h1).trans ((if_neg h2).trans (if_pos (.inr h4)))))
          rw [h4] at x0
          clear HH h1 h2 h3 h4 p0 p1
          cases q
          all_goals
            go_enter Tryz.func184, Tryz.ntmps184
            go_wp2
            go_ret3
            exact ⟨by rw [HN.out]; rfl, rfl⟩
        · have h34 : ¬ (132 < byteI l 0 ∨ byteI l 0 = 128) := by omega
          have h5 : l.length < 1 + (byteI l 0 - 128).toNat := by have := HH.out; omega
          have HN := Lib.hid (szV_none (l := l) 6 ((if_neg h1).trans ((if_neg h2).trans ((if_neg h34).trans (if_pos h5)))) ((if_neg h1).trans ((if_neg h2).trans ((if_neg h34).trans (if_pos h5)))))
          have h5' : (l.length : Int) < 1 + (byteI l 0 - 128) := by omega
          have h4b : (byteI l 0 == 128) = false := by simp [h4]
          clear HH h1 h34 h5
          go_enter Tryz.func184, Tryz.ntmps184
          go_wp2
          go_ret3
          exact ⟨by rw [HN.out]; rfl, rfl⟩
set_option maxHeartbeats 4000000 in
theorem refsize_1 {b : Value} {l : List UInt8} (q : Bool) (w : World) (hb : Rd w b (bvs l)) (hf : byteI l 0 = 128 + 1) (hfit : 1 + 1 ≤ l.length) :
    Calls Tryz.prog 184 #[b, .bool q, .bool true] w fun e w' => e = .returned (szV l) ∧ w = w' := by
  obtain ⟨A, n, c, rfl, hn, hnc, hcm, hA⟩ := hb.bytes
  subst hn
  unfold maxLen at hcm
  clear hb
  have hP : lenP l = if num ((l.drop 1).take 1) < 128 ∨ num ((l.drop 1).take 1) / 256 ^ (1 - 1) = 0 then none else some ((num ((l.drop 1).take 1)).toNat, 1 + 1) := by
    unfold lenP
    rw [if_neg (by omega), hf, if_neg (by decide), if_neg (by decide), show ((128 : Int) + 1 - 128).toNat = 1 from rfl, if_neg (by omega)]
  have hE : szE l = if num ((l.drop 1).take 1) < 128 ∨ num ((l.drop 1).take 1) / 256 ^ (1 - 1) = 0 then 5 else 0 := by
    unfold szE
    rw [if_neg (by omega), hf, if_neg (by decide), if_neg (by decide), show ((128 : Int) + 1 - 128).toNat = 1 from rfl, if_neg (by omega)]
  have htop := num_top (l := l.drop 1) (k := 1 - 1) (by rw [List.length_drop]; omega)
  rw [byteI_drop] at htop
  have hld : (l.drop 1).length ≥ 1 := by rw [List.length_drop]; omega
  have HP := Lib.hid hP
  have HE := Lib.hid hE
  have HTOP := Lib.hid htop
  clear hP hE htop
  obtain ⟨bb, o, rfl, hbl, hcell⟩ := hA (by omega)
  have x0 := hcell 0 (by omega)
  have x1 := hcell 1 (by omega)
  have r0 := byteI_lo l 1
  have r1 := byteI_hi l 1
  have hl0 : 0 < l.length := by omega
  have hl1 : 1 < l.length := by omega
  have hl0' : ((l.length : Int) == 0) = false := by rw [beq_eq_false_iff_ne]; omega
  have hfit' : ¬ (l.length : Int) < 1 + 1 := by omega
  simp only [Int.reduceAdd] at hfit'
  have HC := Lib.hid hcell
  rw [hf] at x0
  have x0 : w.cell? ⟨bb, o, none⟩ = some (.int .u8 (128 + 1)) := x0
  simp only [Int.reduceAdd] at x0
  clear hcell hA hf
  go_enter Tryz.func184, Tryz.ntmps184
  go_wp2
  go_loop [11, 12] (fun n i => ∃ j : Nat, j ≤ 1 ∧ i = .int .i64 ((j : Int) + 1) ∧ n = .int .i64 (num ((l.drop 1).take j))) (fun _ i => 1 + 1 - (intOf i).toNat)
  case atStart => exact ⟨0, by omega, rfl, rfl⟩
  case round =>
    obtain ⟨j, hj, rfl, rfl⟩ := hrel
    obtain ⟨q3, q4⟩ := num_lt4 (l.drop 1) (j := j) (by omega)
    by_cases hlt : j < 1
    · have HS := Lib.hid (num_step (l := l.drop 1) (k := j) (by omega))
      rw [byteI_drop] at HS
      obtain ⟨p, hp⟩ : ∃ p, p = 1 + j := ⟨_, rfl⟩
      rw [← hp] at HS
      have xp := HC.out p (by omega)
      have s0 := byteI_lo l p
      have s1 := byteI_hi l p
      have ep : (j : Int) + 1 = (p : Int) := by omega
      rw [ep]
      have HPJ := Lib.hid hp
      have hpk : (p : Int) ≤ 1 := by omega
      have hpl : p < l.length := by omega
      clear ep hp
      have wi1 : IntKind.i64.wrap ((p : Int)) = (p : Int) := IntWalk.i64_in _ (by omega)
      have zi1 : (0 : Int) ≤ (p : Int) := by omega
      have li1 : (p : Int) < (l.length : Int) := by omega
      have ti1 : ((p : Int)).toNat = p := by omega
      have wb : IntKind.i64.wrap ((p : Int) + 1) = (p : Int) + 1 := IntWalk.i64_in _ (by omega)
      generalize num ((l.drop 1).take j) = m at *
      go_wp2
      go_round
      case rel => exact ⟨j + 1, by omega, by rw [show ((j + 1 : Nat) : Int) + 1 = (p : Int) + 1 by have := HPJ.out; omega], by rw [HS.out]⟩
      case measure => simp [intOf]; have := HPJ.out; omega
    · obtain rfl : j = 1 := by omega
      have HTOP2 := HTOP.out
      simp only [Nat.reduceSub, Nat.reduceAdd] at HTOP2
      have HP2 := HP.out
      have HE2 := HE.out
      rw [HTOP2] at HP2 HE2
      have HP3 := Lib.hid HP2
      have HE3 := Lib.hid HE2
      have HT3 := Lib.hid HTOP2
      clear HP2 HE2 HTOP2 HTOP HP HE
      generalize num ((l.drop 1).take 1) = m at *
      simp only [Int.reduceAdd, Int.cast_ofNat_Int]
      by_cases hm : m < 128
      · have HN := Lib.hid (szV_none (l := l) 5 (HP3.out.trans (if_pos (.inl hm))) (HE3.out.trans (if_pos (.inl hm))))
        have hm' : m ≤ 127 := by omega
        go_wp2
        go_ret3
        exact ⟨by rw [HN.out]; rfl, rfl⟩
      · have hm' : ¬ m ≤ 127 := by omega
        by_cases hz : byteI l 1 = 0
        · have HN := Lib.hid (szV_none (l := l) 5 (HP3.out.trans (if_pos (.inr hz))) (HE3.out.trans (if_pos (.inr hz))))
          first
            | (exfalso; have q := HT3.out; simp only [Int.pow_zero, Int.ediv_one] at q; omega)
            | (rw [hz] at x1
               clear hz r0 r1
               go_wp2
               go_ret3
               exact ⟨by rw [HN.out]; rfl, rfl⟩)
        · have HN := Lib.hid (szV_some (l := l) (HP3.out.trans (if_neg (not_or.2 ⟨hm, hz⟩))))
          have em : ((m.toNat : Nat) : Int) = m := by omega
          rw [em] at HN
          have hzb : (byteI l 1 == 0) = false := by simp [hz]
          clear em hz
          go_wp2
          go_ret3
          exact ⟨by rw [HN.out]; rfl, rfl⟩
set_option maxHeartbeats 4000000 in
theorem refsize_2 {b : Value} {l : List UInt8} (q : Bool) (w : World) (hb : Rd w b (bvs l)) (hf : byteI l 0 = 128 + 2) (hfit : 1 + 2 ≤ l.length) :
    Calls Tryz.prog 184 #[b, .bool q, .bool true] w fun e w' => e = .returned (szV l) ∧ w = w' := by
  obtain ⟨A, n, c, rfl, hn, hnc, hcm, hA⟩ := hb.bytes
  subst hn
  unfold maxLen at hcm
  clear hb
  have hP : lenP l = if num ((l.drop 1).take 2) < 128 ∨ num ((l.drop 1).take 2) / 256 ^ (2 - 1) = 0 then none else some ((num ((l.drop 1).take 2)).toNat, 1 + 2) := by
    unfold lenP
    rw [if_neg (by omega), hf, if_neg (by decide), if_neg (by decide), show ((128 : Int) + 2 - 128).toNat = 2 from rfl, if_neg (by omega)]
  have hE : szE l = if num ((l.drop 1).take 2) < 128 ∨ num ((l.drop 1).take 2) / 256 ^ (2 - 1) = 0 then 5 else 0 := by
    unfold szE
    rw [if_neg (by omega), hf, if_neg (by decide), if_neg (by decide), show ((128 : Int) + 2 - 128).toNat = 2 from rfl, if_neg (by omega)]
  have htop := num_top (l := l.drop 1) (k := 2 - 1) (by rw [List.length_drop]; omega)
  rw [byteI_drop] at htop
  have hld : (l.drop 1).length ≥ 2 := by rw [List.length_drop]; omega
  have HP := Lib.hid hP
  have HE := Lib.hid hE
  have HTOP := Lib.hid htop
  clear hP hE htop
  obtain ⟨bb, o, rfl, hbl, hcell⟩ := hA (by omega)
  have x0 := hcell 0 (by omega)
  have x1 := hcell 1 (by omega)
  have r0 := byteI_lo l 1
  have r1 := byteI_hi l 1
  have hl0 : 0 < l.length := by omega
  have hl1 : 1 < l.length := by omega
  have hl0' : ((l.length : Int) == 0) = false := by rw [beq_eq_false_iff_ne]; omega
  have hfit' : ¬ (l.length : Int) < 1 + 2 := by omega
  simp only [Int.reduceAdd] at hfit'
  have HC := Lib.hid hcell
  rw [hf] at x0
  have x0 : w.cell? ⟨bb, o, none⟩ = some (.int .u8 (128 + 2)) := x0
  simp only [Int.reduceAdd] at x0
  clear hcell hA hf
  go_enter Tryz.func184, Tryz.ntmps184
  go_wp2
  go_loop [11, 12] (fun n i => ∃ j : Nat, j ≤ 2 ∧ i = .int .i64 ((j : Int) + 1) ∧ n = .int .i64 (num ((l.drop 1).take j))) (fun _ i => 2 + 1 - (intOf i).toNat)
  case atStart => exact ⟨0, by omega, rfl, rfl⟩
  case round =>
    obtain ⟨j, hj, rfl, rfl⟩ := hrel
    obtain ⟨q3, q4⟩ := num_lt4 (l.drop 1) (j := j) (by omega)
    by_cases hlt : j < 2
    · have HS := Lib.hid (num_step (l := l.drop 1) (k := j) (by omega))
      rw [byteI_drop] at HS
      obtain ⟨p, hp⟩ : ∃ p, p = 1 + j := ⟨_, rfl⟩
      rw [← hp] at HS
      have xp := HC.out p (by omega)
      have s0 := byteI_lo l p
      have s1 := byteI_hi l p
      have ep : (j : Int) + 1 = (p : Int) := by omega
      rw [ep]
      have HPJ := Lib.hid hp
      have hpk : (p : Int) ≤ 2 := by omega
      have hpl : p < l.length := by omega
      clear ep hp
      have wi2 : IntKind.i64.wrap ((p : Int)) = (p : Int) := IntWalk.i64_in _ (by omega)
      have zi2 : (0 : Int) ≤ (p : Int) := by omega
      have li2 : (p : Int) < (l.length : Int) := by omega
      have ti2 : ((p : Int)).toNat = p := by omega
      have wb : IntKind.i64.wrap ((p : Int) + 1) = (p : Int) + 1 := IntWalk.i64_in _ (by omega)
      generalize num ((l.drop 1).take j) = m at *
      go_wp2
      go_round
      case rel => exact ⟨j + 1, by omega, by rw [show ((j + 1 : Nat) : Int) + 1 = (p : Int) + 1 by have := HPJ.out; omega], by rw [HS.out]⟩
      case measure => simp [intOf]; have := HPJ.out; omega
    · obtain rfl : j = 2 := by omega
      have HTOP2 := HTOP.out
      simp only [Nat.reduceSub, Nat.reduceAdd] at HTOP2
      have HP2 := HP.out
      have HE2 := HE.out
      rw [HTOP2] at HP2 HE2
      have HP3 := Lib.hid HP2
      have HE3 := Lib.hid HE2
      have HT3 := Lib.hid HTOP2
      clear HP2 HE2 HTOP2 HTOP HP HE
      generalize num ((l.drop 1).take 2) = m at *
      simp only [Int.reduceAdd, Int.cast_ofNat_Int]
      by_cases hm : m < 128
      · have HN := Lib.hid (szV_none (l := l) 5 (HP3.out.trans (if_pos (.inl hm))) (HE3.out.trans (if_pos (.inl hm))))
        have hm' : m ≤ 127 := by omega
        go_wp2
        go_ret3
        exact ⟨by rw [HN.out]; rfl, rfl⟩
      · have hm' : ¬ m ≤ 127 := by omega
        by_cases hz : byteI l 1 = 0
        · have HN := Lib.hid (szV_none (l := l) 5 (HP3.out.trans (if_pos (.inr hz))) (HE3.out.trans (if_pos (.inr hz))))
          first
            | (exfalso; have q := HT3.out; simp only [Int.pow_zero, Int.ediv_one] at q; omega)
            | (rw [hz] at x1
               clear hz r0 r1
               go_wp2
               go_ret3
               exact ⟨by rw [HN.out]; rfl, rfl⟩)
        · have HN := Lib.hid (szV_some (l := l) (HP3.out.trans (if_neg (not_or.2 ⟨hm, hz⟩))))
          have em : ((m.toNat : Nat) : Int) = m := by omega
          rw [em] at HN
          have hzb : (byteI l 1 == 0) = false := by simp [hz]
          clear em hz
          go_wp2
          go_ret3
          exact ⟨by rw [HN.out]; rfl, rfl⟩
set_option maxHeartbeats 4000000 in
theorem refsize_3 {b : Value} {l : List UInt8} (q : Bool) (w : World) (hb : Rd w b (bvs l)) (hf : byteI l 0 = 128 + 3) (hfit : 1 + 3 ≤ l.length) :
    Calls Tryz.prog 184 #[b, .bool q, .bool true] w fun e w' => e = .returned (szV l) ∧ w = w' := by
  obtain ⟨A, n, c, rfl, hn, hnc, hcm, hA⟩ := hb.bytes
  subst hn
  unfold maxLen at hcm
  clear hb
  have hP : lenP l = if num ((l.drop 1).take 3) < 128 ∨ num ((l.drop 1).take 3) / 256 ^ (3 - 1) = 0 then none else some ((num ((l.drop 1).take 3)).toNat, 1 + 3) := by
    unfold lenP
    rw [if_neg (by omega), hf, if_neg (by decide), if_neg (by decide), show ((128 : Int) + 3 - 128).toNat = 3 from rfl, if_neg (by omega)]
  have hE : szE l = if num ((l.drop 1).take 3) < 128 ∨ num ((l.drop 1).take 3) / 256 ^ (3 - 1) = 0 then 5 else 0 := by
    unfold szE
    rw [if_neg (by omega), hf, if_neg (by decide), if_neg (by decide), show ((128 : Int) + 3 - 128).toNat = 3 from rfl, if_neg (by omega)]
  have htop := num_top (l := l.drop 1) (k := 3 - 1) (by rw [List.length_drop]; omega)
  rw [byteI_drop] at htop
  have hld : (l.drop 1).length ≥ 3 := by rw [List.length_drop]; omega
  have HP := Lib.hid hP
  have HE := Lib.hid hE
  have HTOP := Lib.hid htop
  clear hP hE htop
  obtain ⟨bb, o, rfl, hbl, hcell⟩ := hA (by omega)
  have x0 := hcell 0 (by omega)
  have x1 := hcell 1 (by omega)
  have r0 := byteI_lo l 1
  have r1 := byteI_hi l 1
  have hl0 : 0 < l.length := by omega
  have hl1 : 1 < l.length := by omega
  have hl0' : ((l.length : Int) == 0) = false := by rw [beq_eq_false_iff_ne]; omega
  have hfit' : ¬ (l.length : Int) < 1 + 3 := by omega
  simp only [Int.reduceAdd] at hfit'
  have HC := Lib.hid hcell
  rw [hf] at x0
  have x0 : w.cell? ⟨bb, o, none⟩ = some (.int .u8 (128 + 3)) := x0
  simp only [Int.reduceAdd] at x0
  clear hcell hA hf
  go_enter Tryz.func184, Tryz.ntmps184
  go_wp2
  go_loop [11, 12] (fun n i => ∃ j : Nat, j ≤ 3 ∧ i = .int .i64 ((j : Int) + 1) ∧ n = .int .i64 (num ((l.drop 1).take j))) (fun _ i => 3 + 1 - (intOf i).toNat)
  case atStart => exact ⟨0, by omega, rfl, rfl⟩
  case round =>
    obtain ⟨j, hj, rfl, rfl⟩ := hrel
    obtain ⟨q3, q4⟩ := num_lt4 (l.drop 1) (j := j) (by omega)
    by_cases hlt : j < 3
    · have HS := Lib.hid (num_step (l := l.drop 1) (k := j) (by omega))
      rw [byteI_drop] at HS
      obtain ⟨p, hp⟩ : ∃ p, p = 1 + j := ⟨_, rfl⟩
      rw [← hp] at HS
      have xp := HC.out p (by omega)
      have s0 := byteI_lo l p
      have s1 := byteI_hi l p
      have ep : (j : Int) + 1 = (p : Int) := by omega
      rw [ep]
      have HPJ := Lib.hid hp
      have hpk : (p : Int) ≤ 3 := by omega
      have hpl : p < l.length := by omega
      clear ep hp
      have wi3 : IntKind.i64.wrap ((p : Int)) = (p : Int) := IntWalk.i64_in _ (by omega)
      have zi3 : (0 : Int) ≤ (p : Int) := by omega
      have li3 : (p : Int) < (l.length : Int) := by omega
      have ti3 : ((p : Int)).toNat = p := by omega
      have wb : IntKind.i64.wrap ((p : Int) + 1) = (p : Int) + 1 := IntWalk.i64_in _ (by omega)
      generalize num ((l.drop 1).take j) = m at *
      go_wp2
      go_round
      case rel => exact ⟨j + 1, by omega, by rw [show ((j + 1 : Nat) : Int) + 1 = (p : Int) + 1 by have := HPJ.out; omega], by rw [HS.out]⟩
      case measure => simp [intOf]; have := HPJ.out; omega
    · obtain rfl : j = 3 := by omega
      have HTOP2 := HTOP.out
      simp only [Nat.reduceSub, Nat.reduceAdd] at HTOP2
      have HP2 := HP.out
      have HE2 := HE.out
      rw [HTOP2] at HP2 HE2
      have HP3 := Lib.hid HP2
      have HE3 := Lib.hid HE2
      have HT3 := Lib.hid HTOP2
      clear HP2 HE2 HTOP2 HTOP HP HE
      generalize num ((l.drop 1).take 3) = m at *
      simp only [Int.reduceAdd, Int.cast_ofNat_Int]
      by_cases hm : m < 128
      · have HN := Lib.hid (szV_none (l := l) 5 (HP3.out.trans (if_pos (.inl hm))) (HE3.out.trans (if_pos (.inl hm))))
        have hm' : m ≤ 127 := by omega
        go_wp2
        go_ret3
        exact ⟨by rw [HN.out]; rfl, rfl⟩
      · have hm' : ¬ m ≤ 127 := by omega
        by_cases hz : byteI l 1 = 0
        · have HN := Lib.hid (szV_none (l := l) 5 (HP3.out.trans (if_pos (.inr hz))) (HE3.out.trans (if_pos (.inr hz))))
          first
            | (exfalso; have q := HT3.out; simp only [Int.pow_zero, Int.ediv_one] at q; omega)
            | (rw [hz] at x1
               clear hz r0 r1
               go_wp2
               go_ret3
               exact ⟨by rw [HN.out]; rfl, rfl⟩)
        · have HN := Lib.hid (szV_some (l := l) (HP3.out.trans (if_neg (not_or.2 ⟨hm, hz⟩))))
          have em : ((m.toNat : Nat) : Int) = m := by omega
          rw [em] at HN
          have hzb : (byteI l 1 == 0) = false := by simp [hz]
          clear em hz
          go_wp2
          go_ret3
          exact ⟨by rw [HN.out]; rfl, rfl⟩
set_option maxHeartbeats 4000000 in
theorem refsize_4 {b : Value} {l : List UInt8} (q : Bool) (w : World) (hb : Rd w b (bvs l)) (hf : byteI l 0 = 128 + 4) (hfit : 1 + 4 ≤ l.length) :
    Calls Tryz.prog 184 #[b, .bool q, .bool true] w fun e w' => e = .returned (szV l) ∧ w = w' := by
  obtain ⟨A, n, c, rfl, hn, hnc, hcm, hA⟩ := hb.bytes
  subst hn
  unfold maxLen at hcm
  clear hb
  have hP : lenP l = if num ((l.drop 1).take 4) < 128 ∨ num ((l.drop 1).take 4) / 256 ^ (4 - 1) = 0 then none else some ((num ((l.drop 1).take 4)).toNat, 1 + 4) := by
    unfold lenP
    rw [if_neg (by omega), hf, if_neg (by decide), if_neg (by decide), show ((128 : Int) + 4 - 128).toNat = 4 from rfl, if_neg (by omega)]
  have hE : szE l = if num ((l.drop 1).take 4) < 128 ∨ num ((l.drop 1).take 4) / 256 ^ (4 - 1) = 0 then 5 else 0 := by
    unfold szE
    rw [if_neg (by omega), hf, if_neg (by decide), if_neg (by decide), show ((128 : Int) + 4 - 128).toNat = 4 from rfl, if_neg (by omega)]
  have htop := num_top (l := l.drop 1) (k := 4 - 1) (by rw [List.length_drop]; omega)
  rw [byteI_drop] at htop
  have hld : (l.drop 1).length ≥ 4 := by rw [List.length_drop]; omega
  have HP := Lib.hid hP
  have HE := Lib.hid hE
  have HTOP := Lib.hid htop
  clear hP hE htop
  obtain ⟨bb, o, rfl, hbl, hcell⟩ := hA (by omega)
  have x0 := hcell 0 (by omega)
  have x1 := hcell 1 (by omega)
  have r0 := byteI_lo l 1
  have r1 := byteI_hi l 1
  have hl0 : 0 < l.length := by omega
  have hl1 : 1 < l.length := by omega
  have hl0' : ((l.length : Int) == 0) = false := by rw [beq_eq_false_iff_ne]; omega
  have hfit' : ¬ (l.length : Int) < 1 + 4 := by omega
  simp only [Int.reduceAdd] at hfit'
  have HC := Lib.hid hcell
  rw [hf] at x0
  have x0 : w.cell? ⟨bb, o, none⟩ = some (.int .u8 (128 + 4)) := x0
  simp only [Int.reduceAdd] at x0
  clear hcell hA hf
  go_enter Tryz.func184, Tryz.ntmps184
  go_wp2
  go_loop [11, 12] (fun n i => ∃ j : Nat, j ≤ 4 ∧ i = .int .i64 ((j : Int) + 1) ∧ n = .int .i64 (num ((l.drop 1).take j))) (fun _ i => 4 + 1 - (intOf i).toNat)
  case atStart => exact ⟨0, by omega, rfl, rfl⟩
  case round =>
    obtain ⟨j, hj, rfl, rfl⟩ := hrel
    obtain ⟨q3, q4⟩ := num_lt4 (l.drop 1) (j := j) (by omega)
    by_cases hlt : j < 4
    · have HS := Lib.hid (num_step (l := l.drop 1) (k := j) (by omega))
      rw [byteI_drop] at HS
      obtain ⟨p, hp⟩ : ∃ p, p = 1 + j := ⟨_, rfl⟩
      rw [← hp] at HS
      have xp := HC.out p (by omega)
      have s0 := byteI_lo l p
      have s1 := byteI_hi l p
      have ep : (j : Int) + 1 = (p : Int) := by omega
      rw [ep]
      have HPJ := Lib.hid hp
      have hpk : (p : Int) ≤ 4 := by omega
      have hpl : p < l.length := by omega
      clear ep hp
      have wi4 : IntKind.i64.wrap ((p : Int)) = (p : Int) := IntWalk.i64_in _ (by omega)
      have zi4 : (0 : Int) ≤ (p : Int) := by omega
      have li4 : (p : Int) < (l.length : Int) := by omega
      have ti4 : ((p : Int)).toNat = p := by omega
      have wb : IntKind.i64.wrap ((p : Int) + 1) = (p : Int) + 1 := IntWalk.i64_in _ (by omega)
      generalize num ((l.drop 1).take j) = m at *
      go_wp2
      go_round
      case rel => exact ⟨j + 1, by omega, by rw [show ((j + 1 : Nat) : Int) + 1 = (p : Int) + 1 by have := HPJ.out; omega], by rw [HS.out]⟩
      case measure => simp [intOf]; have := HPJ.out; omega
    · obtain rfl : j = 4 := by omega
      have HTOP2 := HTOP.out
      simp only [Nat.reduceSub, Nat.reduceAdd] at HTOP2
      have HP2 := HP.out
      have HE2 := HE.out
      rw [HTOP2] at HP2 HE2
      have HP3 := Lib.hid HP2
      have HE3 := Lib.hid HE2
      have HT3 := Lib.hid HTOP2
      clear HP2 HE2 HTOP2 HTOP HP HE
      generalize num ((l.drop 1).take 4) = m at *
      simp only [Int.reduceAdd, Int.cast_ofNat_Int]
      by_cases hm : m < 128
      · have HN := Lib.hid (szV_none (l := l) 5 (HP3.out.trans (if_pos (.inl hm))) (HE3.out.trans (if_pos (.inl hm))))
        have hm' : m ≤ 127 := by omega
        go_wp2
        go_ret3
        exact ⟨by rw [HN.out]; rfl, rfl⟩
      · have hm' : ¬ m ≤ 127 := by omega
        by_cases hz : byteI l 1 = 0
        · have HN := Lib.hid (szV_none (l := l) 5 (HP3.out.trans (if_pos (.inr hz))) (HE3.out.trans (if_pos (.inr hz))))
          first
            | (exfalso; have q := HT3.out; simp only [Int.pow_zero, Int.ediv_one] at q; omega)
            | (rw [hz] at x1
               clear hz r0 r1
               go_wp2
               go_ret3
               exact ⟨by rw [HN.out]; rfl, rfl⟩)
        · have HN := Lib.hid (szV_some (l := l) (HP3.out.trans (if_neg (not_or.2 ⟨hm, hz⟩))))
          have em : ((m.toNat : Nat) : Int) = m := by omega
          rw [em] at HN
          have hzb : (byteI l 1 == 0) = false := by simp [hz]
          clear em hz
          go_wp2
          go_ret3
          exact ⟨by rw [HN.out]; rfl, rfl⟩
theorem refsize_any {b : Value} {l : List UInt8} (q : Bool) (w : World) (hb : Rd w b (bvs l)) : Calls Tryz.prog 184 #[b, .bool q, .bool true] w fun e w' => e = .returned (szV l) ∧ w = w' := by
  by_cases h : l.length < 1 ∨ byteI l 0 < 128 ∨ 132 < byteI l 0 ∨ byteI l 0 = 128 ∨ l.length < 1 + (byteI l 0 - 128).toNat
  · exact refsize_short q w hb h
  · have hf : byteI l 0 = 129 ∨ byteI l 0 = 130 ∨ byteI l 0 = 131 ∨ byteI l 0 = 132 := by omega
    rcases hf with hf | hf | hf | hf
    · exact refsize_1 q w hb hf (by omega)
    · exact refsize_2 q w hb hf (by omega)
    · exact refsize_3 q w hb hf (by omega)
    · exact refsize_4 q w hb hf (by omega)
end Go.Proofs.YteilglpdmfiinaaGreatDoor

namespace Go.Proofs.YteilglpdmfiinaaGreatDoor
open Go.RowKit
set_option linter.unusedVariables false
set_option maxRecDepth 100000

theorem C3.ext {W W' : World} {b : Nat} {v0 v1 v2 : Value} (h : C3 W b v0 v1 v2) (k : Ext W W') : C3 W' b v0 v1 v2 := (k.block b (block_lt h)).trans h
/-- What list returns. -/
def ListR (w : World) (d n0 : Nat) (r : Option (List Nd × Nat)) (en : Ending) (w' : World) : Prop := Ext w w' ∧
  ((r = none ∧ ∃ (A : Option Addr) (n c : Nat) (x y k : Int), k ≠ 0 ∧ en = .returned (.tuple #[.slice A n c, .int .i64 x, .int .i64 y, .int .i64 k])) ∨
   (∃ ts c A n cc, r = some (ts, c) ∧ en = .returned (.tuple #[.slice A n cc, .int .i64 (n0 : Int), .int .i64 (c : Int), .int .i64 0]) ∧ NdsS (fun b => w.heap.size ≤ b) d w' (.slice A n cc) ts))
def ListOk (d : Nat) : Prop := ∀ (w : World) (b : Value) (L : List UInt8) (cnt : Nat), Rd w b (bvs L) → L.length ≤ 4096 → cnt ≤ 256 →
  Calls Tryz.prog 136 #[b, .int .i64 (9 - (d : Int)), .int .i64 (cnt : Int), .bool true, .bool false] w (ListR w d L.length (objsP (9 - (d : Int)) cnt L))
/-- Where the loop of list stands. -/
def LiL (w : World) (L : List UInt8) (d cnt : Nat) (dep : Int) (sofar out at_ : Value) (wr : World) : Prop :=
  ∃ (p c' : Nat) (A : Option Addr) (n cc : Nat) (xs : List Value) (done : List Nd), out = .slice A n cc ∧ at_ = .int .i64 (p : Int) ∧ sofar = .int .i64 (c' : Int) ∧ n = done.length ∧ p ≤ L.length ∧ done.length + cnt ≤ c' ∧ c' ≤ 256 ∧ Ext w wr ∧
    OwnK wr w.heap.size 95 3 (.slice A n cc) xs ∧ NdCells (fun b => w.heap.size ≤ b ∧ rowOf (.slice A n cc) ≠ some b) (d - 1) wr xs done ∧ (d = 0 → done = []) ∧
    objsP dep cnt L = (objsP dep c' (L.drop p)).map fun r => (done ++ r.1, r.2)
theorem listR_no {w w' : World} {d n0 : Nat} {r : Option (List Nd × Nat)} {A : Option Addr} {n c : Nat} {x y k : Int} (hk : k ≠ 0) (hr : r = none) (h : Ext w w') : ListR w d n0 r (.returned (.tuple #[.slice A n c, .int .i64 x, .int .i64 y, .int .i64 k])) w' := ⟨h, .inl ⟨hr, A, n, c, x, y, k, hk, rfl⟩⟩
set_option maxHeartbeats 40000000 in
theorem list_of {d : Nat} (hd9 : d ≤ 9) (H : ∀ d', d = d' + 1 → ListOk d') : ListOk d := by
  intro w b L cnt hb hl hc
  have HH := Lib.hid H
  clear H
  obtain ⟨A0, n0, c0, rfl, hn0, hnc0, hcm0, hA0⟩ := hb.bytes
  subst hn0
  unfold maxLen at hcm0
  have HB := Lib.hid hb
  clear hb
  obtain ⟨dep, hdep⟩ : ∃ dep : Int, dep = 9 - (d : Int) := ⟨_, rfl⟩
  rw [← hdep]
  obtain ⟨hdepl, hdepu⟩ : 0 ≤ dep ∧ dep ≤ 9 := by omega
  have HDEP := Lib.hid hdep
  clear hdep
  have R0 : LiL w L d cnt dep (.int .i64 (cnt : Int)) (.slice none 0 0) (.int .i64 0) w :=
    ⟨0, cnt, none, 0, 0, [], [], rfl, rfl, rfl, rfl, Nat.zero_le _, by simp, hc, Below.refl _ _, OwnK.empty _ _ _ _ _, NdCells.nil _ _ _, fun _ => rfl, by
      rw [List.drop_zero]
      cases objsP dep cnt L <;> rfl⟩
  have R0' := Lib.hid R0
  clear R0
  obtain ⟨r, hr⟩ : ∃ r, objsP dep cnt L = r := ⟨_, rfl⟩
  rw [hr]
  have HRR := Lib.hid hr
  have HA0 := Lib.hid hA0
  clear hr hA0
  go_enter Tryz.func136, Tryz.ntmps136
  go_wp2
  go_loopw [2, 14, 15, 16, 17, 18, 19, 20, 97, 100, 103, 120, 138] (fun sofar out at_ _ _ _ _ _ _ _ _ _ _ wr => LiL w L d cnt dep sofar out at_ wr) (fun _ _ at_ _ _ _ _ _ _ _ _ _ _ _ => L.length - (intOf at_).toNat)
  case atStart => exact R0'.out
  case round =>
    obtain ⟨p, c', A, n, cc, xs, done, rfl, rfl, rfl, hn, hpe, hdc, hc6, bw, ow, nc, hd0, hP⟩ := hrel
    have HP := Lib.hid (HRR.out.symm.trans hP)
    have HN := Lib.hid hn
    clear hP hn
    by_cases hlt : p < L.length
    · obtain ⟨bb, o, rfl, hbl, hcell⟩ := HA0.out (by omega)
      have hlt' : ¬ (L.length : Int) ≤ (p : Int) := by omega
      have hcp : ¬ c0 = p := by omega
      have wi1 : IntKind.i64.wrap ((p : Int)) = (p : Int) := IntWalk.i64_in _ (by omega)
      have zi1 : (0 : Int) ≤ (p : Int) := by omega
      have li1 : (p : Int) < (L.length : Int) := by omega
      have ti1 : ((p : Int)).toNat = p := by omega
      have hpc : p ≤ c0 := by omega
      obtain ⟨r1, hr1⟩ : ∃ r1, objP1 objsP dep c' (L.drop p) = r1 := ⟨_, rfl⟩
      have HR1 := Lib.hid hr1
      clear hr1 hcell
      have rdp := (HB.out.ext bw).dropB p (by omega)
      have RDP := Lib.hid rdp
      clear rdp
      go_wp2_with fail
      refine (reftag_any _ RDP.out).mono ?_
      rintro en wa ⟨b1, hx⟩
      have x1 := bw.tr b1
      rcases hx with ⟨ht, x, y, k, hk, rfl⟩ | ⟨t, k, ht, rfl⟩
      · have hk2 : (k != 0) = true := by simpa using hk
        have HNO := Lib.hid (show r = none by
          have q : r1 = none := by rw [← HR1.out]; unfold objP1 headP; rw [ht]
          rw [HP.out, objsP_none (by rw [List.length_drop]; omega) (HR1.out.trans q)]; rfl)
        clear ht
        go_wp2_with fail
        refine bodyPost_ret (v := .tuple #[.slice none 0 0, .int .i64 0, .int .i64 0, .int .i64 k]) ?_ rfl (listR_no hk HNO.out x1)
        simp [results, Tryz.results136, go_sem]
      · obtain ⟨k0, k1, k2, t0, t1, hv⟩ := tagP_bd ht
        rw [List.length_drop] at k2
        have HT := Lib.hid ht
        clear ht
        obtain ⟨p1, hp1⟩ : ∃ p1, p1 = p + k := ⟨_, rfl⟩
        have ep1 : (p : Int) + (k : Int) = (p1 : Int) := by omega
        have HP1 := Lib.hid hp1
        have hp1l : p1 ≤ L.length := by omega
        have wp1 : IntKind.i64.wrap ((p : Int) + (k : Int)) = (p1 : Int) := by rw [ep1]; exact IntWalk.i64_in _ (by omega)
        clear hp1 ep1
        obtain ⟨q, hq⟩ : ∃ q, consT t = q := ⟨_, rfl⟩
        have HQ := Lib.hid hq
        have HCO := fun w => refcons_any t w t0 t1
        rw [hq] at HCO
        have HCO' := Lib.hid HCO
        clear HCO hq
        have rs := fun (W : World) (h : Ext wa W) => ((HB.out.ext x1).ext h).cut p1 L.length hp1l (by rw [bvs_length]; exact Nat.le_refl _)
        have e1 : ((bvs L).drop p1).take (L.length - p1) = bvs (L.drop p1) := by
          rw [List.take_of_length_le (by rw [List.length_drop, bvs_length]; exact Nat.le_refl _)]
          simp [bvs, List.map_drop]
        rw [e1] at rs
        have e2 : (if c0 = p1 then some (⟨bb, o, none⟩ : Addr) else (some (⟨bb, o, none⟩ : Addr)).map (·.add p1)) = (if c0 = p1 then some (⟨bb, o, none⟩ : Addr) else some ⟨bb, o + p1, none⟩) := by simp [Addr.add_lit]
        rw [e2] at rs
        obtain ⟨A9, hA9⟩ : ∃ A9, (if c0 = p1 then some (⟨bb, o, none⟩ : Addr) else some ⟨bb, o + p1, none⟩) = A9 := ⟨_, rfl⟩
        rw [hA9] at rs
        clear e2
        have RS := Lib.hid rs
        clear rs e1
        have wi2 : IntKind.i64.wrap ((p1 : Int)) = (p1 : Int) := IntWalk.i64_in _ (by omega)
        have zi2 : (0 : Int) ≤ (p1 : Int) := by omega
        have li2 : (p1 : Int) < (L.length : Int) + 1 := by omega
        have ti2 : ((p1 : Int)).toNat = p1 := by omega
        cases hlp : lenP (L.drop p1) with
        | none =>
          obtain ⟨ze, hze⟩ : ∃ ze, szE (L.drop p1) = ze := ⟨_, rfl⟩
          have hz0 := szE_none hlp
          rw [hze] at hz0
          have HZ := Lib.hid (szV_none ze hlp hze)
          have hk2 : (ze != 0) = true := by simpa using hz0
          have HNO := Lib.hid (show r = none by
            have q : r1 = none := by rw [← HR1.out]; unfold objP1 headP; rw [HT.out]; simp only [List.drop_drop]; rw [← HP1.out, hlp]
            rw [HP.out, objsP_none (by rw [List.length_drop]; omega) (HR1.out.trans q)]; rfl)
          clear hlp hze
          go_wp2_with (first
            | (go_quiet (first
              | (go_at_call 185; exact (HCO'.out _).mono fun _ _ ⟨h1, h2⟩ => ⟨h1, _, h2.symm⟩)
              | (go_at_call 184; exact (refsize_any q _ (RS.out _ (Ext.drewN_ _ _))).mono fun _ _ ⟨h1, h2⟩ => ⟨h1.trans (by rw [HZ.out]), _, h2.symm⟩))))
          refine bodyPost_ret (v := .tuple #[.slice none 0 0, .int .i64 0, .int .i64 0, .int .i64 ze]) ?_ rfl (listR_no hz0 HNO.out (x1.tr (Ext.drewN_ _ _)))
          simp [results, Tryz.results136, go_sem]
        | some v =>
          obtain ⟨n2, j⟩ := v
          obtain ⟨j0, j1, j2, n4⟩ := lenP_bd hlp
          rw [List.length_drop] at j2
          have HZ := Lib.hid (szV_some hlp)
          have hhead : headP dep c' (L.drop p) = if 8 < dep ∨ 256 < c' + 1 ∨ L.length - p < k + j + n2 then none else some (t, k + j, n2) := by
            unfold headP
            rw [HT.out]
            simp only [List.drop_drop, List.length_drop]
            rw [← HP1.out, hlp]
          have HHD := Lib.hid hhead
          have hcp1 : ¬ c0 = p1 := by omega
          have RS2 := Lib.hid (fun (W : World) (h : Ext wa W) => ((HB.out.ext x1).ext h).dropB p1 hp1l)
          clear hlp hhead hA9 RS
          obtain ⟨p2, hp2⟩ : ∃ p2, p2 = p1 + j := ⟨_, rfl⟩
          have ep2 : (p1 : Int) + (j : Int) = (p2 : Int) := by omega
          have HP2 := Lib.hid hp2
          have hp2l : p2 ≤ L.length := by omega
          have wp2 : IntKind.i64.wrap ((p1 : Int) + (j : Int)) = (p2 : Int) := by rw [ep2]; exact IntWalk.i64_in _ (by omega)
          clear hp2 ep2
          have wc : IntKind.i64.wrap ((c' : Int) + 1) = (c' : Int) + 1 := IntWalk.i64_in _ (by omega)
          have wlp : IntKind.i64.wrap ((L.length : Int) - (p2 : Int)) = (L.length : Int) - (p2 : Int) := IntWalk.i64_in _ (by omega)
          have HNN := Lib.hid (fun h : 8 < dep ∨ 256 < c' + 1 ∨ L.length - p < k + j + n2 => (show r = none by
            have q : r1 = none := by rw [← HR1.out]; unfold objP1; rw [HHD.out, if_pos h]
            rw [HP.out, objsP_none (by rw [List.length_drop]; omega) (HR1.out.trans q)]; rfl))
          by_cases hd8 : 8 < dep
          · have HNO := Lib.hid (HNN.out (.inl hd8))
            go_wp2_with (first
              | (go_quiet (first
                | (go_at_call 185; exact (HCO'.out _).mono fun _ _ ⟨h1, h2⟩ => ⟨h1, _, h2.symm⟩)
                | (go_at_call 184; exact (refsize_any q _ (RS2.out _ (Ext.drewN_ _ _))).mono fun _ _ ⟨h1, h2⟩ => ⟨h1.trans (by rw [HZ.out]), _, h2.symm⟩))))
            refine bodyPost_ret (v := .tuple #[.slice none 0 0, .int .i64 0, .int .i64 0, .int .i64 7]) ?_ rfl (listR_no (by decide) HNO.out (x1.tr (Ext.drewN_ _ _)))
            simp [results, Tryz.results136, go_sem]
          · have hd0 : 1 ≤ d := by have := HDEP.out; omega
            by_cases hcn : 256 < (c' : Int) + 1
            · have HNO := Lib.hid (HNN.out (.inr (.inl (by omega))))
              go_wp2_with (first
                | (go_quiet (first
                  | (go_at_call 185; exact (HCO'.out _).mono fun _ _ ⟨h1, h2⟩ => ⟨h1, _, h2.symm⟩)
                  | (go_at_call 184; exact (refsize_any q _ (RS2.out _ (Ext.drewN_ _ _))).mono fun _ _ ⟨h1, h2⟩ => ⟨h1.trans (by rw [HZ.out]), _, h2.symm⟩))))
              refine bodyPost_ret (v := .tuple #[.slice none 0 0, .int .i64 0, .int .i64 0, .int .i64 2]) ?_ rfl (listR_no (by decide) HNO.out (x1.tr (Ext.drewN_ _ _)))
              simp [results, Tryz.results136, go_sem]
            · by_cases hfit : (L.length : Int) - (p2 : Int) < (n2 : Int)
              · have HNO := Lib.hid (HNN.out (.inr (.inr (by have := HP1.out; have := HP2.out; omega))))
                go_wp2_with (first
                  | (go_quiet (first
                    | (go_at_call 185; exact (HCO'.out _).mono fun _ _ ⟨h1, h2⟩ => ⟨h1, _, h2.symm⟩)
                    | (go_at_call 184; exact (refsize_any q _ (RS2.out _ (Ext.drewN_ _ _))).mono fun _ _ ⟨h1, h2⟩ => ⟨h1.trans (by rw [HZ.out]), _, h2.symm⟩))))
                refine bodyPost_ret (v := .tuple #[.slice none 0 0, .int .i64 0, .int .i64 0, .int .i64 6]) ?_ rfl (listR_no (by decide) HNO.out (x1.tr (Ext.drewN_ _ _)))
                simp [results, Tryz.results136, go_sem]
              · have hn20 : ¬ (n2 : Int) < 0 := by omega
                go_wp2_with (first
                  | (go_quiet (first
                    | (go_at_call 185; exact (HCO'.out _).mono fun _ _ ⟨h1, h2⟩ => ⟨h1, _, h2.symm⟩)
                    | (go_at_call 184; exact (refsize_any q _ (RS2.out _ (Ext.drewN_ _ _))).mono fun _ _ ⟨h1, h2⟩ => ⟨h1.trans (by rw [HZ.out]), _, h2.symm⟩)); have xq := Ext.drewN_ wa nq; generalize wa.drewN nq = wb at *))
                have hrr : r1 = objP1 objsP dep c' (L.drop p) := HR1.out.symm
                unfold objP1 at hrr
                rw [HHD.out, if_neg (by have := HP1.out; have := HP2.out; omega)] at hrr
                simp only [List.drop_drop] at hrr
                rw [show p + (k + j) = p2 by have := HP1.out; have := HP2.out; omega, HQ.out] at hrr
                have HRY0 := Lib.hid hrr
                clear hrr
                have hxc5 := C3.new wb (.int .i64 t) (.slice none 0 0) (.slice none 0 0)
                have x5 : Ext wb (wb.alloc (.cells #[.int .i64 t, .slice none 0 0, .slice none 0 0] 95)) := (Below.refl _ _).alloc (Nat.le_refl _) _
                have hl5 := hxc5.lt
                generalize wb.alloc (.cells #[.int .i64 t, .slice none 0 0, .slice none 0 0] 95) = W5 at *
                have xw5 : Ext wr W5 := b1.tr (xq.tr x5)
                refine (HCO'.out _).mono ?_
                rintro en' w5' ⟨rfl, rfl⟩
                obtain ⟨y0, y1, y2, yf0, yf1, yf2⟩ := hxc5.cells
                have rs3 := ((HB.out.ext bw).ext xw5).cut p2 (p2 + n2) (by omega) (by rw [bvs_length]; have := HP1.out; have := HP2.out; omega)
                have e3 : ((bvs L).drop p2).take (p2 + n2 - p2) = bvs ((L.drop p2).take n2) := by rw [Nat.add_sub_cancel_left]; simp [bvs, List.map_drop, List.map_take]
                have e4 : (if c0 = p2 then some (⟨bb, o, none⟩ : Addr) else (some (⟨bb, o, none⟩ : Addr)).map (·.add p2)) = (if c0 = p2 then some (⟨bb, o, none⟩ : Addr) else some ⟨bb, o + p2, none⟩) := by simp [Addr.add_lit]
                rw [e3, e4, Nat.add_sub_cancel_left] at rs3
                obtain ⟨A8, hA8⟩ : ∃ A8, (if c0 = p2 then some (⟨bb, o, none⟩ : Addr) else some ⟨bb, o + p2, none⟩) = A8 := ⟨_, rfl⟩
                rw [hA8] at rs3
                have RS3 := Lib.hid rs3
                clear e3 e4 rs3
                have wpn : IntKind.i64.wrap ((p2 : Int) + (n2 : Int)) = (p2 : Int) + (n2 : Int) := IntWalk.i64_in _ (by omega)
                have hpn : p2 + n2 ≤ c0 := by omega
                have tpn : ((p2 : Int) + (n2 : Int)).toNat = p2 + n2 := by omega
                have lpn : (p2 : Int) + (n2 : Int) ≤ (c0 : Int) := by omega
                have lpn2 : (p2 : Int) ≤ (p2 : Int) + (n2 : Int) := by omega
                have l0p : (0 : Int) ≤ (p2 : Int) := by omega
                have l0pn : (0 : Int) ≤ (p2 : Int) + (n2 : Int) := by omega
                have wdd : IntKind.i64.wrap (dep + 1) = dep + 1 := IntWalk.i64_in _ (by omega)
                obtain ⟨d', rfl⟩ : ∃ d', d = d' + 1 := ⟨d - 1, by omega⟩
                have sz5 := x5.size
                have hwb5 : wb.heap.size < W5.heap.size := hl5
                cases q
                · have HRX := Lib.hid (HRY0.out.trans (if_neg (by decide)))
                  clear HRY0
                  go_wp2_with (first
                    | (refine appN (ys := (L.drop p2).take n2) (w0 := W5) (B := W5.heap.size) RS3.out (Below.refl _ _) (by rw [List.length_take, List.length_drop]; omega) (Nat.le_refl _) rfl rfl rfl rfl ?_; intro A6 n6 c6 w6 hn6 o6 b6 g6
                       have b6 : Ext W5 w6 := b6
                       have hxc6 := hxc5.ext b6
                       have hl6 := hxc6.lt
                       obtain ⟨z0, z1, z2, zf0, zf1, zf2⟩ := hxc6.cells
                       have xb6 : Gb wb.heap.size wr ((w6.setCell ⟨wb.heap.size, 1, none⟩ (.slice A6 n6 c6)).alloc (.cells #[.int .i64 t, .slice A6 n6 c6, .slice none 0 0] 95)) := ((Gb.of _ (xw5.tr b6)).tr (Gb.set wb.heap.size 1 _ _)).tr (Gb.of _ ((Below.refl _ _).alloc (Nat.le_refl _) _))
                       have hrow := rowOf_geK ow
                       have hrlt := rowOf_ltK ow
                       have sW := bw.size
                       have sWr : wr.heap.size ≤ wb.heap.size := (b1.tr xq).size
                       have ow2 := ow.grown xb6 (by
                         cases hq : rowOf (.slice A n cc) with
                         | none => exact .inl rfl
                         | some r => exact .inr (fun h => by have := hrlt r hq; injection h with h; omega))
                       have nc2 := nc.map (S' := fun b => w.heap.size ≤ b ∧ rowOf (.slice A n cc) ≠ some b) (w' := (w6.setCell ⟨wb.heap.size, 1, none⟩ (.slice A6 n6 c6)).alloc (.cells #[.int .i64 t, .slice A6 n6 c6, .slice none 0 0] 95)) (fun b hb hbl => ⟨hb, xb6.block b hbl (fun h => by injection h with h; omega)⟩)
                       have hm : ∀ b, W5.heap.size ≤ b → b < w6.heap.size → (w.heap.size ≤ b ∧ rowOf (.slice A n cc) ≠ some b) ∧ ((w6.setCell ⟨wb.heap.size, 1, none⟩ (.slice A6 n6 c6)).alloc (.cells #[.int .i64 t, .slice A6 n6 c6, .slice none 0 0] 95)).heap[b]? = w6.heap[b]? := fun b hb hbl =>
                         ⟨⟨by omega, fun h => by have := hrlt b h; omega⟩, (((Below.refl _ _).alloc (Nat.le_refl _) _ : Ext (w6.setCell ⟨wb.heap.size, 1, none⟩ (.slice A6 n6 c6)) _).block b (by simpa using hbl)).trans (setCell_block (by omega))⟩
                       have r1' := (RdS.of o6 (S := fun b => W5.heap.size ≤ b) (fun b h => h)).map hm
                       have r2' : NdsS (fun b => w.heap.size ≤ b ∧ rowOf (.slice A n cc) ≠ some b) (d' + 1 - 1) ((w6.setCell ⟨wb.heap.size, 1, none⟩ (.slice A6 n6 c6)).alloc (.cells #[.int .i64 t, .slice A6 n6 c6, .slice none 0 0] 95)) (.slice none 0 0) (Nd.mk t ((L.drop p2).take n2) []).kids := NdsS.nil _ _
                       clear o6 hn6
                       have R := RdK.lit (w6.setCell ⟨wb.heap.size, 1, none⟩ (.slice A6 n6 c6)) 3 #[.int .i64 t, .slice A6 n6 c6, .slice none 0 0] 95 1 rfl (by unfold maxLen; omega)
                       rw [show (w6.setCell ⟨wb.heap.size, 1, none⟩ (.slice A6 n6 c6)).heap.size = w6.heap.size by simp] at R
                       have hWz : w.heap.size ≤ ((w6.setCell ⟨wb.heap.size, 1, none⟩ (.slice A6 n6 c6)).alloc (.cells #[.int .i64 t, .slice A6 n6 c6, .slice none 0 0] 95)).heap.size := Nat.le_trans sW xb6.size
                       obtain ⟨u0, u1⟩ := objP1_used (HR1.out.trans HRX.out)
                       rw [List.length_drop] at u1
                       obtain ⟨c10, c11⟩ := objP1_cnt (HR1.out.trans HRX.out)
                       have hstep := objsP_some (by rw [List.length_drop]; omega) (HR1.out.trans HRX.out)
                       rw [List.drop_drop] at hstep
                       have HST := Lib.hid hstep
                       have hgb : Ext w ((w6.setCell ⟨wb.heap.size, 1, none⟩ (.slice A6 n6 c6)).alloc (.cells #[.int .i64 t, .slice A6 n6 c6, .slice none 0 0] 95)) := Gb.below bw xb6 (by omega)
                       have HSUM := Lib.hid (show p + (k + j + n2) = p2 + n2 by have := HP1.out; have := HP2.out; omega)
                       clear hm nc ow hrow hrlt hstep)
                    | (refine appNd (S0 := fun b => w.heap.size ≤ b) (B := w.heap.size) (t := Nd.mk t ((L.drop p2).take n2) []) ow2 nc2 R r1' r2' (by omega) hWz rfl rfl rfl rfl ?_; intro A7 n7 c7 w8 hn7 o8 nc8 g8 hge))
                  have HN8 := hn7.out
                  have e8 : Ext w w8 := hgb.grown g8 hWz hge
                  have hP8 : objsP dep cnt L = (objsP dep (c' + 1) (L.drop (p2 + n2))).map fun r => ((done ++ [Nd.mk t ((L.drop p2).take n2) []]) ++ r.1, r.2) := by
                    rw [HRR.out, HP.out, HST.out, HSUM.out, Option.map_map]
                    congr 1
                    funext r
                    simp
                  go_roundw
                  case rel => exact ⟨p2 + n2, (c' + 1), A7, n7, c7, _, done ++ [Nd.mk t ((L.drop p2).take n2) []], rfl, congrArg (Value.int .i64) (by omega), congrArg (Value.int .i64) (by omega), by rw [HN8]; simp, by have := HSUM.out; omega, by simp; omega, c10, e8, o8, nc8, fun h => by omega, hP8⟩
                  case measure => simp [intOf]; have := HSUM.out; omega
                · have HRX0 := Lib.hid (HRY0.out.trans (if_pos rfl))
                  clear HRY0
                  have hO := HH.out d' rfl W5 _ _ (c' + 1) RS3.out (by rw [List.length_take, List.length_drop]; omega) (by omega)
                  rw [show (9 : Int) - (d' : Int) = dep + 1 by have := HDEP.out; omega, show ((c' + 1 : Nat) : Int) = (c' : Int) + 1 by omega] at hO
                  have HO := Lib.hid hO
                  clear hO
                  go_wp2_with fail
                  refine HO.out.mono ?_
                  rintro en w6 ⟨b6, hx⟩
                  have hxc6 : C3 w6 wb.heap.size (.int .i64 t) (.slice none 0 0) (.slice none 0 0) := hxc5.ext b6
                  have hl6 := hxc6.lt
                  clear y0 y1 y2 yf0 yf1 yf2
                  obtain ⟨y0, y1, y2, yf0, yf1, yf2⟩ := hxc6.cells
                  rcases hx with ⟨hn0, A6, n6, c6, x, y, kk, hkk, rfl⟩ | ⟨ks, c1, A6, n6, c6, hn0, rfl, nd6⟩
                  · have hkk2 : (kk != 0) = true := by simpa using hkk
                    have HNO := Lib.hid (show r = none by
                      have q : r1 = none := by rw [HRX0.out, hn0]
                      rw [HP.out, objsP_none (by rw [List.length_drop]; omega) (HR1.out.trans q)]; rfl)
                    clear hn0
                    go_wp2_with fail
                    refine bodyPost_ret (v := .tuple #[.slice none 0 0, .int .i64 0, .int .i64 0, .int .i64 kk]) ?_ rfl (listR_no hkk HNO.out (((bw.tr xw5).tr b6).setCell (p := ⟨wb.heap.size, 2, none⟩) (by have := (b1.tr xq).size; have := bw.size; show w.heap.size ≤ wb.heap.size; omega) _))
                    simp [results, Tryz.results136, go_sem]
                  · have HRX := Lib.hid (show r1 = some (Nd.mk t [] ks, c1, k + j + n2) by rw [HRX0.out, hn0])
                    clear hn0
                    have xb6 : Gb wb.heap.size wr ((w6.setCell ⟨wb.heap.size, 2, none⟩ (.slice A6 n6 c6)).alloc (.cells #[.int .i64 t, .slice none 0 0, .slice A6 n6 c6] 95)) := ((Gb.of _ (xw5.tr b6)).tr (Gb.set wb.heap.size 2 _ _)).tr (Gb.of _ ((Below.refl _ _).alloc (Nat.le_refl _) _))
                    have hrow := rowOf_geK ow
                    have hrlt := rowOf_ltK ow
                    have sW := bw.size
                    have sWr : wr.heap.size ≤ wb.heap.size := (b1.tr xq).size
                    have ow2 := ow.grown xb6 (by
                      cases hq : rowOf (.slice A n cc) with
                      | none => exact .inl rfl
                      | some r => exact .inr (fun h => by have := hrlt r hq; injection h with h; omega))
                    have nc2 := nc.map (S' := fun b => w.heap.size ≤ b ∧ rowOf (.slice A n cc) ≠ some b) (w' := (w6.setCell ⟨wb.heap.size, 2, none⟩ (.slice A6 n6 c6)).alloc (.cells #[.int .i64 t, .slice none 0 0, .slice A6 n6 c6] 95)) (fun b hb hbl => ⟨hb, xb6.block b hbl (fun h => by injection h with h; omega)⟩)
                    have hm : ∀ b, W5.heap.size ≤ b → b < w6.heap.size → (w.heap.size ≤ b ∧ rowOf (.slice A n cc) ≠ some b) ∧ ((w6.setCell ⟨wb.heap.size, 2, none⟩ (.slice A6 n6 c6)).alloc (.cells #[.int .i64 t, .slice none 0 0, .slice A6 n6 c6] 95)).heap[b]? = w6.heap[b]? := fun b hb hbl =>
                      ⟨⟨by omega, fun h => by have := hrlt b h; omega⟩, (((Below.refl _ _).alloc (Nat.le_refl _) _ : Ext (w6.setCell ⟨wb.heap.size, 2, none⟩ (.slice A6 n6 c6)) _).block b (by simpa using hbl)).trans (setCell_block (by omega))⟩
                    have r1' : RdS (fun b => w.heap.size ≤ b ∧ rowOf (.slice A n cc) ≠ some b) ((w6.setCell ⟨wb.heap.size, 2, none⟩ (.slice A6 n6 c6)).alloc (.cells #[.int .i64 t, .slice none 0 0, .slice A6 n6 c6] 95)) (.slice none 0 0) (bvs (Nd.mk t [] ks).val) := RdS.nil _
                    have r2' := nd6.map hm
                    clear nd6
                    have R := RdK.lit (w6.setCell ⟨wb.heap.size, 2, none⟩ (.slice A6 n6 c6)) 3 #[.int .i64 t, .slice none 0 0, .slice A6 n6 c6] 95 1 rfl (by unfold maxLen; omega)
                    rw [show (w6.setCell ⟨wb.heap.size, 2, none⟩ (.slice A6 n6 c6)).heap.size = w6.heap.size by simp] at R
                    have hWz : w.heap.size ≤ ((w6.setCell ⟨wb.heap.size, 2, none⟩ (.slice A6 n6 c6)).alloc (.cells #[.int .i64 t, .slice none 0 0, .slice A6 n6 c6] 95)).heap.size := Nat.le_trans sW xb6.size
                    obtain ⟨u0, u1⟩ := objP1_used (HR1.out.trans HRX.out)
                    rw [List.length_drop] at u1
                    obtain ⟨c10, c11⟩ := objP1_cnt (HR1.out.trans HRX.out)
                    have hstep := objsP_some (by rw [List.length_drop]; omega) (HR1.out.trans HRX.out)
                    rw [List.drop_drop] at hstep
                    have HST := Lib.hid hstep
                    have hgb : Ext w ((w6.setCell ⟨wb.heap.size, 2, none⟩ (.slice A6 n6 c6)).alloc (.cells #[.int .i64 t, .slice none 0 0, .slice A6 n6 c6] 95)) := Gb.below bw xb6 (by omega)
                    have HSUM := Lib.hid (show p + (k + j + n2) = p2 + n2 by have := HP1.out; have := HP2.out; omega)
                    clear hm nc ow hrow hrlt hstep
                    go_wp2_with (refine appNd (S0 := fun b => w.heap.size ≤ b) (B := w.heap.size) (t := Nd.mk t [] ks) ow2 nc2 R r1' r2' (by omega) hWz rfl rfl rfl rfl ?_; intro A7 n7 c7 w8 hn7 o8 nc8 g8 hge)
                    have HN8 := hn7.out
                    have e8 : Ext w w8 := hgb.grown g8 hWz hge
                    have hP8 : objsP dep cnt L = (objsP dep c1 (L.drop (p2 + n2))).map fun r => ((done ++ [Nd.mk t [] ks]) ++ r.1, r.2) := by
                      rw [HRR.out, HP.out, HST.out, HSUM.out, Option.map_map]
                      congr 1
                      funext r
                      simp
                    go_roundw
                    case rel => exact ⟨p2 + n2, c1, A7, n7, c7, _, done ++ [Nd.mk t [] ks], rfl, congrArg (Value.int .i64) (by omega), congrArg (Value.int .i64) (by omega), by rw [HN8]; simp, by have := HSUM.out; omega, by simp; omega, c10, e8, o8, nc8, fun h => by omega, hP8⟩
                    case measure => simp [intOf]; have := HSUM.out; omega
    · obtain rfl : p = L.length := by omega
      have hnil : L.drop L.length = [] := List.drop_length
      have hr2 := HP.out
      rw [hnil, objsP_nil] at hr2
      simp only [Option.map_some, List.append_nil] at hr2
      have HR2 := Lib.hid hr2
      clear hr2 hnil
      go_wp2
      refine bodyPost_ret (v := .tuple #[.slice A n cc, .int .i64 (L.length : Int), .int .i64 (c' : Int), .int .i64 0]) ?_ rfl ⟨bw, .inr ⟨done, c', A, n, cc, HR2.out, rfl, ?_⟩⟩
      · simp [results, Tryz.results136, go_sem]
      · cases d with
        | zero =>
          obtain rfl := hd0 rfl
          have : n = 0 := HN.out
          subst this
          exact ⟨rfl, A, cc, rfl, by
            have := ow.rd
            obtain ⟨A', n', c'', e', _, _, h3, _⟩ := this
            injection e' with _ _ e'
            rw [e']; exact h3⟩
        | succ d => exact NdsS.mk ow nc (fun b h => h.1) (fun b h => h)
end Go.Proofs.YteilglpdmfiinaaGreatDoor

namespace Go.Proofs.YteilglpdmfiinaaGreatDoor
open Go.RowKit
set_option linter.unusedVariables false
set_option maxRecDepth 100000

theorem list_all : ∀ d, d ≤ 9 → ListOk d
  | 0, h => list_of h fun d' e => by omega
  | d + 1, h => list_of h fun d' e => by
      obtain rfl : d' = d := by omega
      exact list_all _ (by omega)
set_option maxHeartbeats 1000000 in
theorem refparse_any {a : Value} {l : List UInt8} (w : World) (ha : Rd w a (bvs l)) : Calls Tryz.prog 74 #[a, .bool true] w (ParR w 8 (parP l)) := by
  have ha0 := ha
  obtain ⟨A, n, c, rfl, hn, hnc, hcm, _⟩ := ha.bytes
  subst hn
  unfold maxLen at hcm
  clear ha
  have HA := Lib.hid ha0
  clear ha0
  by_cases h : 4096 < l.length
  · have HP := Lib.hid (show parP l = none from if_pos h)
    have h' : (4096 : Int) < (l.length : Int) := by omega
    go_enter Tryz.func74, Tryz.ntmps74
    go_wp2
    go_ret2
    exact ⟨Below.refl _ _, .inl ⟨HP.out, none, 0, 0, 2, by decide, rfl⟩⟩
  · have HP := Lib.hid (show parP l = objsP 1 0 l from if_neg h)
    have h' : ¬ (4096 : Int) < (l.length : Int) := by omega
    have hO := list_all 8 (by omega) w _ l 0 HA.out (by omega) (by omega)
    have HO := Lib.hid hO
    clear hO
    go_enter Tryz.func74, Tryz.ntmps74
    go_wp2_with fail
    refine HO.out.mono ?_
    rintro en w2 ⟨e2, hx⟩
    rcases hx with ⟨hn, A', n', c', x, y, k, hk, rfl⟩ | ⟨ts, k, A', n', cc, hn, rfl, nd⟩
    · have HN := Lib.hid (HP.out.trans hn)
      clear hn
      go_wp2_with fail
      go_ret2
      exact ⟨e2, .inl ⟨HN.out, A', n', c', k, hk, rfl⟩⟩
    · have HN := Lib.hid (HP.out.trans hn)
      have HD := Lib.hid nd.rd
      clear hn nd
      go_wp2_with fail
      go_ret2
      exact ⟨e2, .inr ⟨ts, k, A', n', cc, HN.out, rfl, HD.out⟩⟩
end Go.Proofs.YteilglpdmfiinaaGreatDoor
