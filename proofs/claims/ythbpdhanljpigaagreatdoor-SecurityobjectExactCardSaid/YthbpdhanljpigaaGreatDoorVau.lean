/- Parts Qh Qi of the proof. -/
import Derived.Test.YthbpdhanljpigaaGreatDoorVat
import Derived.Test.YthbpdhanljpigaaGreatDoorVah
namespace Go.Proofs.YthbpdhanljpigaaGreatDoor
open Go.RowKit
set_option linter.unusedVariables false
set_option maxRecDepth 100000
/-- What the reference's size returns. -/
def szX (r : Except Int (Int × Nat)) : Value := match r with
  | .error e => .tuple #[.int .i64 0, .int .i64 0, .int .i64 e]
  | .ok (n, k) => .tuple #[.int .i64 n, .int .i64 (k : Int), .int .i64 0]
theorem szX_no {r : Except Int (Int × Nat)} {k : Int} (h : r = .error k) : szX r = .tuple #[.int .i64 0, .int .i64 0, .int .i64 k] := by rw [h]; rfl
theorem szX_yes {r : Except Int (Int × Nat)} {n : Int} {k : Nat} (h : r = .ok (n, k)) : szX r = .tuple #[.int .i64 n, .int .i64 (k : Int), .int .i64 0] := by rw [h]; rfl
set_option maxHeartbeats 2000000 in
theorem refsizeX_short {b : Value} {l : List UInt8} (c q : Bool) (w : World) (hb : Rd w b (bvs l)) (h : l.length < 1 ∨ byteI l 0 < 128 ∨ 132 < byteI l 0 ∨ byteI l 0 = 128 ∨ l.length < 1 + (byteI l 0 - 128).toNat) :
    Calls Tryz.prog 175 #[b, .bool c, .bool q] w fun e w' => e = .returned (szX (lenX q c l)) ∧ w = w' := by
  obtain ⟨A, n, cp, rfl, hn, hnc, hcm, hA⟩ := hb.bytes
  subst hn
  unfold maxLen at hcm
  clear hb
  have HH := Lib.hid h
  clear h
  by_cases h1 : l.length < 1
  · have HN := Lib.hid (szX_no (r := lenX q c l) (k := 6) (if_pos h1))
    have h0 : l.length = 0 := by omega
    rw [h0]
    clear hA HH h1 hcm hnc h0
    go_enter Tryz.func175, Tryz.ntmps175
    go_wp2
    go_ret3
    exact ⟨by rw [HN.out]; rfl, rfl⟩
  · obtain ⟨bb, o, rfl, hbl, hcell⟩ := hA (by omega)
    have x0 := hcell 0 (by omega)
    have p0 := byteI_lo l 0
    have p1 := byteI_hi l 0
    have hl0 : 0 < l.length := by omega
    have hl0' : ((l.length : Int) == 0) = false := by rw [beq_eq_false_iff_ne]; omega
    clear hcell hA
    simp only [Nat.add_zero] at x0
    by_cases h2 : byteI l 0 < 128
    · have HN := Lib.hid (szX_yes (r := lenX q c l) ((if_neg h1).trans (if_pos h2)))
      clear HH h1
      go_enter Tryz.func175, Tryz.ntmps175
      go_wp2
      go_ret3
      exact ⟨by rw [HN.out]; rfl, rfl⟩
    · by_cases h3 : 132 < byteI l 0
      · have HN := Lib.hid (szX_no (r := lenX q c l) (k := 5) ((if_neg h1).trans ((if_neg h2).trans (if_pos h3))))
        clear HH h1
        go_enter Tryz.func175, Tryz.ntmps175
        go_wp2
        go_ret3
        exact ⟨by rw [HN.out]; rfl, rfl⟩
      · by_cases h4 : byteI l 0 = 128
        · have HT := Lib.hid ((if_neg h1).trans ((if_neg h2).trans ((if_neg h3).trans (if_pos h4))) : lenX q c l = _)
          rw [h4] at x0
          clear HH h1 h2 h3 h4 p0 p1
          cases q
          · cases c
            · have HN := Lib.hid (szX_no (r := lenX false false l) (HT.out.trans (if_neg (by simp))))
              clear HT
              go_enter Tryz.func175, Tryz.ntmps175
              go_wp2
              go_ret3
              exact ⟨by rw [HN.out]; rfl, rfl⟩
            · have HN := Lib.hid (szX_yes (r := lenX false true l) (HT.out.trans (if_pos (by simp))))
              clear HT
              go_enter Tryz.func175, Tryz.ntmps175
              go_wp2
              go_ret3
              exact ⟨by rw [HN.out]; rfl, rfl⟩
          · have HN := Lib.hid (szX_no (r := lenX true c l) (HT.out.trans (if_neg (by simp))))
            clear HT
            cases c
            all_goals
              go_enter Tryz.func175, Tryz.ntmps175
              go_wp2
              go_ret3
              exact ⟨by rw [HN.out]; rfl, rfl⟩
        · have h5 : l.length < 1 + (byteI l 0 - 128).toNat := by have := HH.out; omega
          have HN := Lib.hid (szX_no (r := lenX q c l) (k := 6) ((if_neg h1).trans ((if_neg h2).trans ((if_neg h3).trans ((if_neg h4).trans (if_pos h5))))))
          have h5' : (l.length : Int) < 1 + (byteI l 0 - 128) := by omega
          have h4b : (byteI l 0 == 128) = false := by simp [h4]
          clear HH h1 h5
          go_enter Tryz.func175, Tryz.ntmps175
          go_wp2
          go_ret3
          exact ⟨by rw [HN.out]; rfl, rfl⟩
set_option maxHeartbeats 4000000 in
theorem refsizeX_1 {b : Value} {l : List UInt8} (c q : Bool) (w : World) (hb : Rd w b (bvs l)) (hf : byteI l 0 = 128 + 1) (hfit : 1 + 1 ≤ l.length) :
    Calls Tryz.prog 175 #[b, .bool c, .bool q] w fun e w' => e = .returned (szX (lenX q c l)) ∧ w = w' := by
  obtain ⟨A, n, cp, rfl, hn, hnc, hcm, hA⟩ := hb.bytes
  subst hn
  unfold maxLen at hcm
  clear hb
  have hP : lenX q c l = if q = true ∧ (num ((l.drop 1).take 1) < 128 ∨ num ((l.drop 1).take 1) / 256 ^ (1 - 1) = 0) then .error 5 else .ok (num ((l.drop 1).take 1), 1 + 1) := by
    unfold lenX numX
    rw [if_neg (by omega), hf, if_neg (by decide), if_neg (by decide), if_neg (by decide), show ((128 : Int) + 1 - 128).toNat = 1 from rfl, if_neg (by omega)]
  have htop := num_top (l := l.drop 1) (k := 1 - 1) (by rw [List.length_drop]; omega)
  rw [byteI_drop] at htop
  have hld : (l.drop 1).length ≥ 1 := by rw [List.length_drop]; omega
  have HP := Lib.hid hP
  have HTOP := Lib.hid htop
  clear hP htop
  obtain ⟨bb, o, rfl, hbl, hcell⟩ := hA (by omega)
  have x0 := hcell 0 (by omega)
  have x1 := hcell 1 (by omega)
  have r0 := byteI_lo l 1
  have r1 := byteI_hi l 1
  have hl0 : 0 < l.length := by omega
  have hl1 : 1 < l.length := by omega
  have hl0' : ((l.length : Int) == 0) = false := by rw [beq_eq_false_iff_ne]; omega
  have hfit' : ¬ (l.length : Int) < 1 + 1 := by omega
  simp only [Int.reduceAdd] at hfit'
  have HC := Lib.hid hcell
  rw [hf] at x0
  have x0 : w.cell? ⟨bb, o, none⟩ = some (.int .u8 (128 + 1)) := x0
  simp only [Int.reduceAdd] at x0
  clear hcell hA hf
  go_enter Tryz.func175, Tryz.ntmps175
  go_wp2
  go_loop [11, 12] (fun n i => ∃ j : Nat, j ≤ 1 ∧ i = .int .i64 ((j : Int) + 1) ∧ n = .int .i64 (num ((l.drop 1).take j))) (fun _ i => 1 + 1 - (intOf i).toNat)
  case atStart => exact ⟨0, by omega, rfl, rfl⟩
  case round =>
    obtain ⟨j, hj, rfl, rfl⟩ := hrel
    obtain ⟨q3, q4⟩ := num_lt4 (l.drop 1) (j := j) (by omega)
    by_cases hlt : j < 1
    · have HS := Lib.hid (num_step (l := l.drop 1) (k := j) (by omega))
      rw [byteI_drop] at HS
      obtain ⟨p, hp⟩ : ∃ p, p = 1 + j := ⟨_, rfl⟩
      rw [← hp] at HS
      have xp := HC.out p (by omega)
      have s0 := byteI_lo l p
      have s1 := byteI_hi l p
      have ep : (j : Int) + 1 = (p : Int) := by omega
      rw [ep]
      have HPJ := Lib.hid hp
      have hpk : (p : Int) ≤ 1 := by omega
      have hpl : p < l.length := by omega
      clear ep hp
      have wi1 : IntKind.i64.wrap ((p : Int)) = (p : Int) := IntWalk.i64_in _ (by omega)
      have zi1 : (0 : Int) ≤ (p : Int) := by omega
      have li1 : (p : Int) < (l.length : Int) := by omega
      have ti1 : ((p : Int)).toNat = p := by omega
      have wb : IntKind.i64.wrap ((p : Int) + 1) = (p : Int) + 1 := IntWalk.i64_in _ (by omega)
      generalize num ((l.drop 1).take j) = m at *
      go_wp2
      go_round
      case rel => exact ⟨j + 1, by omega, by rw [show ((j + 1 : Nat) : Int) + 1 = (p : Int) + 1 by have := HPJ.out; omega], by rw [HS.out]⟩
      case measure => simp [intOf]; have := HPJ.out; omega
    · obtain rfl : j = 1 := by omega
      have HTOP2 := HTOP.out
      simp only [Nat.reduceSub, Nat.reduceAdd] at HTOP2
      have HP2 := HP.out
      rw [HTOP2] at HP2
      have HP3 := Lib.hid HP2
      have HT3 := Lib.hid HTOP2
      clear HP2 HTOP2 HTOP HP
      generalize num ((l.drop 1).take 1) = m at *
      simp only [Int.reduceAdd, Int.cast_ofNat_Int]
      cases q
      · have HN := Lib.hid (szX_yes (HP3.out.trans (if_neg (by simp))))
        clear HP3 HT3
        go_wp2
        go_ret3
        exact ⟨by rw [HN.out]; rfl, rfl⟩
      · by_cases hm : m < 128
        · have HN := Lib.hid (szX_no (HP3.out.trans (if_pos ⟨rfl, .inl hm⟩)))
          have hm' : m ≤ 127 := by omega
          go_wp2
          go_ret3
          exact ⟨by rw [HN.out]; rfl, rfl⟩
        · have hm' : ¬ m ≤ 127 := by omega
          by_cases hz : byteI l 1 = 0
          · have HN := Lib.hid (szX_no (HP3.out.trans (if_pos ⟨rfl, .inr hz⟩)))
            first
              | (exfalso; have q := HT3.out; simp only [Int.pow_zero, Int.ediv_one] at q; omega)
              | (rw [hz] at x1
                 clear hz r0 r1
                 go_wp2
                 go_ret3
                 exact ⟨by rw [HN.out]; rfl, rfl⟩)
          · have HN := Lib.hid (szX_yes (HP3.out.trans (if_neg (fun q => q.2.elim hm hz))))
            have hzb : (byteI l 1 == 0) = false := by simp [hz]
            clear hz
            go_wp2
            go_ret3
            exact ⟨by rw [HN.out]; rfl, rfl⟩
set_option maxHeartbeats 4000000 in
theorem refsizeX_2 {b : Value} {l : List UInt8} (c q : Bool) (w : World) (hb : Rd w b (bvs l)) (hf : byteI l 0 = 128 + 2) (hfit : 1 + 2 ≤ l.length) :
    Calls Tryz.prog 175 #[b, .bool c, .bool q] w fun e w' => e = .returned (szX (lenX q c l)) ∧ w = w' := by
  obtain ⟨A, n, cp, rfl, hn, hnc, hcm, hA⟩ := hb.bytes
  subst hn
  unfold maxLen at hcm
  clear hb
  have hP : lenX q c l = if q = true ∧ (num ((l.drop 1).take 2) < 128 ∨ num ((l.drop 1).take 2) / 256 ^ (2 - 1) = 0) then .error 5 else .ok (num ((l.drop 1).take 2), 1 + 2) := by
    unfold lenX numX
    rw [if_neg (by omega), hf, if_neg (by decide), if_neg (by decide), if_neg (by decide), show ((128 : Int) + 2 - 128).toNat = 2 from rfl, if_neg (by omega)]
  have htop := num_top (l := l.drop 1) (k := 2 - 1) (by rw [List.length_drop]; omega)
  rw [byteI_drop] at htop
  have hld : (l.drop 1).length ≥ 2 := by rw [List.length_drop]; omega
  have HP := Lib.hid hP
  have HTOP := Lib.hid htop
  clear hP htop
  obtain ⟨bb, o, rfl, hbl, hcell⟩ := hA (by omega)
  have x0 := hcell 0 (by omega)
  have x1 := hcell 1 (by omega)
  have r0 := byteI_lo l 1
  have r1 := byteI_hi l 1
  have hl0 : 0 < l.length := by omega
  have hl1 : 1 < l.length := by omega
  have hl0' : ((l.length : Int) == 0) = false := by rw [beq_eq_false_iff_ne]; omega
  have hfit' : ¬ (l.length : Int) < 1 + 2 := by omega
  simp only [Int.reduceAdd] at hfit'
  have HC := Lib.hid hcell
  rw [hf] at x0
  have x0 : w.cell? ⟨bb, o, none⟩ = some (.int .u8 (128 + 2)) := x0
  simp only [Int.reduceAdd] at x0
  clear hcell hA hf
  go_enter Tryz.func175, Tryz.ntmps175
  go_wp2
  go_loop [11, 12] (fun n i => ∃ j : Nat, j ≤ 2 ∧ i = .int .i64 ((j : Int) + 1) ∧ n = .int .i64 (num ((l.drop 1).take j))) (fun _ i => 2 + 1 - (intOf i).toNat)
  case atStart => exact ⟨0, by omega, rfl, rfl⟩
  case round =>
    obtain ⟨j, hj, rfl, rfl⟩ := hrel
    obtain ⟨q3, q4⟩ := num_lt4 (l.drop 1) (j := j) (by omega)
    by_cases hlt : j < 2
    · have HS := Lib.hid (num_step (l := l.drop 1) (k := j) (by omega))
      rw [byteI_drop] at HS
      obtain ⟨p, hp⟩ : ∃ p, p = 1 + j := ⟨_, rfl⟩
      rw [← hp] at HS
      have xp := HC.out p (by omega)
      have s0 := byteI_lo l p
      have s1 := byteI_hi l p
      have ep : (j : Int) + 1 = (p : Int) := by omega
      rw [ep]
      have HPJ := Lib.hid hp
      have hpk : (p : Int) ≤ 2 := by omega
      have hpl : p < l.length := by omega
      clear ep hp
      have wi2 : IntKind.i64.wrap ((p : Int)) = (p : Int) := IntWalk.i64_in _ (by omega)
      have zi2 : (0 : Int) ≤ (p : Int) := by omega
      have li2 : (p : Int) < (l.length : Int) := by omega
      have ti2 : ((p : Int)).toNat = p := by omega
      have wb : IntKind.i64.wrap ((p : Int) + 1) = (p : Int) + 1 := IntWalk.i64_in _ (by omega)
      generalize num ((l.drop 1).take j) = m at *
      go_wp2
      go_round
      case rel => exact ⟨j + 1, by omega, by rw [show ((j + 1 : Nat) : Int) + 1 = (p : Int) + 1 by have := HPJ.out; omega], by rw [HS.out]⟩
      case measure => simp [intOf]; have := HPJ.out; omega
    · obtain rfl : j = 2 := by omega
      have HTOP2 := HTOP.out
      simp only [Nat.reduceSub, Nat.reduceAdd] at HTOP2
      have HP2 := HP.out
      rw [HTOP2] at HP2
      have HP3 := Lib.hid HP2
      have HT3 := Lib.hid HTOP2
      clear HP2 HTOP2 HTOP HP
      generalize num ((l.drop 1).take 2) = m at *
      simp only [Int.reduceAdd, Int.cast_ofNat_Int]
      cases q
      · have HN := Lib.hid (szX_yes (HP3.out.trans (if_neg (by simp))))
        clear HP3 HT3
        go_wp2
        go_ret3
        exact ⟨by rw [HN.out]; rfl, rfl⟩
      · by_cases hm : m < 128
        · have HN := Lib.hid (szX_no (HP3.out.trans (if_pos ⟨rfl, .inl hm⟩)))
          have hm' : m ≤ 127 := by omega
          go_wp2
          go_ret3
          exact ⟨by rw [HN.out]; rfl, rfl⟩
        · have hm' : ¬ m ≤ 127 := by omega
          by_cases hz : byteI l 1 = 0
          · have HN := Lib.hid (szX_no (HP3.out.trans (if_pos ⟨rfl, .inr hz⟩)))
            first
              | (exfalso; have q := HT3.out; simp only [Int.pow_zero, Int.ediv_one] at q; omega)
              | (rw [hz] at x1
                 clear hz r0 r1
                 go_wp2
                 go_ret3
                 exact ⟨by rw [HN.out]; rfl, rfl⟩)
          · have HN := Lib.hid (szX_yes (HP3.out.trans (if_neg (fun q => q.2.elim hm hz))))
            have hzb : (byteI l 1 == 0) = false := by simp [hz]
            clear hz
            go_wp2
            go_ret3
            exact ⟨by rw [HN.out]; rfl, rfl⟩
set_option maxHeartbeats 4000000 in
theorem refsizeX_3 {b : Value} {l : List UInt8} (c q : Bool) (w : World) (hb : Rd w b (bvs l)) (hf : byteI l 0 = 128 + 3) (hfit : 1 + 3 ≤ l.length) :
    Calls Tryz.prog 175 #[b, .bool c, .bool q] w fun e w' => e = .returned (szX (lenX q c l)) ∧ w = w' := by
  obtain ⟨A, n, cp, rfl, hn, hnc, hcm, hA⟩ := hb.bytes
  subst hn
  unfold maxLen at hcm
  clear hb
  have hP : lenX q c l = if q = true ∧ (num ((l.drop 1).take 3) < 128 ∨ num ((l.drop 1).take 3) / 256 ^ (3 - 1) = 0) then .error 5 else .ok (num ((l.drop 1).take 3), 1 + 3) := by
    unfold lenX numX
    rw [if_neg (by omega), hf, if_neg (by decide), if_neg (by decide), if_neg (by decide), show ((128 : Int) + 3 - 128).toNat = 3 from rfl, if_neg (by omega)]
  have htop := num_top (l := l.drop 1) (k := 3 - 1) (by rw [List.length_drop]; omega)
  rw [byteI_drop] at htop
  have hld : (l.drop 1).length ≥ 3 := by rw [List.length_drop]; omega
  have HP := Lib.hid hP
  have HTOP := Lib.hid htop
  clear hP htop
  obtain ⟨bb, o, rfl, hbl, hcell⟩ := hA (by omega)
  have x0 := hcell 0 (by omega)
  have x1 := hcell 1 (by omega)
  have r0 := byteI_lo l 1
  have r1 := byteI_hi l 1
  have hl0 : 0 < l.length := by omega
  have hl1 : 1 < l.length := by omega
  have hl0' : ((l.length : Int) == 0) = false := by rw [beq_eq_false_iff_ne]; omega
  have hfit' : ¬ (l.length : Int) < 1 + 3 := by omega
  simp only [Int.reduceAdd] at hfit'
  have HC := Lib.hid hcell
  rw [hf] at x0
  have x0 : w.cell? ⟨bb, o, none⟩ = some (.int .u8 (128 + 3)) := x0
  simp only [Int.reduceAdd] at x0
  clear hcell hA hf
  go_enter Tryz.func175, Tryz.ntmps175
  go_wp2
  go_loop [11, 12] (fun n i => ∃ j : Nat, j ≤ 3 ∧ i = .int .i64 ((j : Int) + 1) ∧ n = .int .i64 (num ((l.drop 1).take j))) (fun _ i => 3 + 1 - (intOf i).toNat)
  case atStart => exact ⟨0, by omega, rfl, rfl⟩
  case round =>
    obtain ⟨j, hj, rfl, rfl⟩ := hrel
    obtain ⟨q3, q4⟩ := num_lt4 (l.drop 1) (j := j) (by omega)
    by_cases hlt : j < 3
    · have HS := Lib.hid (num_step (l := l.drop 1) (k := j) (by omega))
      rw [byteI_drop] at HS
      obtain ⟨p, hp⟩ : ∃ p, p = 1 + j := ⟨_, rfl⟩
      rw [← hp] at HS
      have xp := HC.out p (by omega)
      have s0 := byteI_lo l p
      have s1 := byteI_hi l p
      have ep : (j : Int) + 1 = (p : Int) := by omega
      rw [ep]
      have HPJ := Lib.hid hp
      have hpk : (p : Int) ≤ 3 := by omega
      have hpl : p < l.length := by omega
      clear ep hp
      have wi3 : IntKind.i64.wrap ((p : Int)) = (p : Int) := IntWalk.i64_in _ (by omega)
      have zi3 : (0 : Int) ≤ (p : Int) := by omega
      have li3 : (p : Int) < (l.length : Int) := by omega
      have ti3 : ((p : Int)).toNat = p := by omega
      have wb : IntKind.i64.wrap ((p : Int) + 1) = (p : Int) + 1 := IntWalk.i64_in _ (by omega)
      generalize num ((l.drop 1).take j) = m at *
      go_wp2
      go_round
      case rel => exact ⟨j + 1, by omega, by rw [show ((j + 1 : Nat) : Int) + 1 = (p : Int) + 1 by have := HPJ.out; omega], by rw [HS.out]⟩
      case measure => simp [intOf]; have := HPJ.out; omega
    · obtain rfl : j = 3 := by omega
      have HTOP2 := HTOP.out
      simp only [Nat.reduceSub, Nat.reduceAdd] at HTOP2
      have HP2 := HP.out
      rw [HTOP2] at HP2
      have HP3 := Lib.hid HP2
      have HT3 := Lib.hid HTOP2
      clear HP2 HTOP2 HTOP HP
      generalize num ((l.drop 1).take 3) = m at *
      simp only [Int.reduceAdd, Int.cast_ofNat_Int]
      cases q
      · have HN := Lib.hid (szX_yes (HP3.out.trans (if_neg (by simp))))
        clear HP3 HT3
        go_wp2
        go_ret3
        exact ⟨by rw [HN.out]; rfl, rfl⟩
      · by_cases hm : m < 128
        · have HN := Lib.hid (szX_no (HP3.out.trans (if_pos ⟨rfl, .inl hm⟩)))
          have hm' : m ≤ 127 := by omega
          go_wp2
          go_ret3
          exact ⟨by rw [HN.out]; rfl, rfl⟩
        · have hm' : ¬ m ≤ 127 := by omega
          by_cases hz : byteI l 1 = 0
          · have HN := Lib.hid (szX_no (HP3.out.trans (if_pos ⟨rfl, .inr hz⟩)))
            first
              | (exfalso; have q := HT3.out; simp only [Int.pow_zero, Int.ediv_one] at q; omega)
              | (rw [hz] at x1
                 clear hz r0 r1
                 go_wp2
                 go_ret3
                 exact ⟨by rw [HN.out]; rfl, rfl⟩)
          · have HN := Lib.hid (szX_yes (HP3.out.trans (if_neg (fun q => q.2.elim hm hz))))
            have hzb : (byteI l 1 == 0) = false := by simp [hz]
            clear hz
            go_wp2
            go_ret3
            exact ⟨by rw [HN.out]; rfl, rfl⟩
set_option maxHeartbeats 4000000 in
theorem refsizeX_4 {b : Value} {l : List UInt8} (c q : Bool) (w : World) (hb : Rd w b (bvs l)) (hf : byteI l 0 = 128 + 4) (hfit : 1 + 4 ≤ l.length) :
    Calls Tryz.prog 175 #[b, .bool c, .bool q] w fun e w' => e = .returned (szX (lenX q c l)) ∧ w = w' := by
  obtain ⟨A, n, cp, rfl, hn, hnc, hcm, hA⟩ := hb.bytes
  subst hn
  unfold maxLen at hcm
  clear hb
  have hP : lenX q c l = if q = true ∧ (num ((l.drop 1).take 4) < 128 ∨ num ((l.drop 1).take 4) / 256 ^ (4 - 1) = 0) then .error 5 else .ok (num ((l.drop 1).take 4), 1 + 4) := by
    unfold lenX numX
    rw [if_neg (by omega), hf, if_neg (by decide), if_neg (by decide), if_neg (by decide), show ((128 : Int) + 4 - 128).toNat = 4 from rfl, if_neg (by omega)]
  have htop := num_top (l := l.drop 1) (k := 4 - 1) (by rw [List.length_drop]; omega)
  rw [byteI_drop] at htop
  have hld : (l.drop 1).length ≥ 4 := by rw [List.length_drop]; omega
  have HP := Lib.hid hP
  have HTOP := Lib.hid htop
  clear hP htop
  obtain ⟨bb, o, rfl, hbl, hcell⟩ := hA (by omega)
  have x0 := hcell 0 (by omega)
  have x1 := hcell 1 (by omega)
  have r0 := byteI_lo l 1
  have r1 := byteI_hi l 1
  have hl0 : 0 < l.length := by omega
  have hl1 : 1 < l.length := by omega
  have hl0' : ((l.length : Int) == 0) = false := by rw [beq_eq_false_iff_ne]; omega
  have hfit' : ¬ (l.length : Int) < 1 + 4 := by omega
  simp only [Int.reduceAdd] at hfit'
  have HC := Lib.hid hcell
  rw [hf] at x0
  have x0 : w.cell? ⟨bb, o, none⟩ = some (.int .u8 (128 + 4)) := x0
  simp only [Int.reduceAdd] at x0
  clear hcell hA hf
  go_enter Tryz.func175, Tryz.ntmps175
  go_wp2
  go_loop [11, 12] (fun n i => ∃ j : Nat, j ≤ 4 ∧ i = .int .i64 ((j : Int) + 1) ∧ n = .int .i64 (num ((l.drop 1).take j))) (fun _ i => 4 + 1 - (intOf i).toNat)
  case atStart => exact ⟨0, by omega, rfl, rfl⟩
  case round =>
    obtain ⟨j, hj, rfl, rfl⟩ := hrel
    obtain ⟨q3, q4⟩ := num_lt4 (l.drop 1) (j := j) (by omega)
    by_cases hlt : j < 4
    · have HS := Lib.hid (num_step (l := l.drop 1) (k := j) (by omega))
      rw [byteI_drop] at HS
      obtain ⟨p, hp⟩ : ∃ p, p = 1 + j := ⟨_, rfl⟩
      rw [← hp] at HS
      have xp := HC.out p (by omega)
      have s0 := byteI_lo l p
      have s1 := byteI_hi l p
      have ep : (j : Int) + 1 = (p : Int) := by omega
      rw [ep]
      have HPJ := Lib.hid hp
      have hpk : (p : Int) ≤ 4 := by omega
      have hpl : p < l.length := by omega
      clear ep hp
      have wi4 : IntKind.i64.wrap ((p : Int)) = (p : Int) := IntWalk.i64_in _ (by omega)
      have zi4 : (0 : Int) ≤ (p : Int) := by omega
      have li4 : (p : Int) < (l.length : Int) := by omega
      have ti4 : ((p : Int)).toNat = p := by omega
      have wb : IntKind.i64.wrap ((p : Int) + 1) = (p : Int) + 1 := IntWalk.i64_in _ (by omega)
      generalize num ((l.drop 1).take j) = m at *
      go_wp2
      go_round
      case rel => exact ⟨j + 1, by omega, by rw [show ((j + 1 : Nat) : Int) + 1 = (p : Int) + 1 by have := HPJ.out; omega], by rw [HS.out]⟩
      case measure => simp [intOf]; have := HPJ.out; omega
    · obtain rfl : j = 4 := by omega
      have HTOP2 := HTOP.out
      simp only [Nat.reduceSub, Nat.reduceAdd] at HTOP2
      have HP2 := HP.out
      rw [HTOP2] at HP2
      have HP3 := Lib.hid HP2
      have HT3 := Lib.hid HTOP2
      clear HP2 HTOP2 HTOP HP
      generalize num ((l.drop 1).take 4) = m at *
      simp only [Int.reduceAdd, Int.cast_ofNat_Int]
      cases q
      · have HN := Lib.hid (szX_yes (HP3.out.trans (if_neg (by simp))))
        clear HP3 HT3
        go_wp2
        go_ret3
        exact ⟨by rw [HN.out]; rfl, rfl⟩
      · by_cases hm : m < 128
        · have HN := Lib.hid (szX_no (HP3.out.trans (if_pos ⟨rfl, .inl hm⟩)))
          have hm' : m ≤ 127 := by omega
          go_wp2
          go_ret3
          exact ⟨by rw [HN.out]; rfl, rfl⟩
        · have hm' : ¬ m ≤ 127 := by omega
          by_cases hz : byteI l 1 = 0
          · have HN := Lib.hid (szX_no (HP3.out.trans (if_pos ⟨rfl, .inr hz⟩)))
            first
              | (exfalso; have q := HT3.out; simp only [Int.pow_zero, Int.ediv_one] at q; omega)
              | (rw [hz] at x1
                 clear hz r0 r1
                 go_wp2
                 go_ret3
                 exact ⟨by rw [HN.out]; rfl, rfl⟩)
          · have HN := Lib.hid (szX_yes (HP3.out.trans (if_neg (fun q => q.2.elim hm hz))))
            have hzb : (byteI l 1 == 0) = false := by simp [hz]
            clear hz
            go_wp2
            go_ret3
            exact ⟨by rw [HN.out]; rfl, rfl⟩
theorem refsizeX_any {b : Value} {l : List UInt8} (c q : Bool) (w : World) (hb : Rd w b (bvs l)) : Calls Tryz.prog 175 #[b, .bool c, .bool q] w fun e w' => e = .returned (szX (lenX q c l)) ∧ w = w' := by
  by_cases h : l.length < 1 ∨ byteI l 0 < 128 ∨ 132 < byteI l 0 ∨ byteI l 0 = 128 ∨ l.length < 1 + (byteI l 0 - 128).toNat
  · exact refsizeX_short c q w hb h
  · have hf : byteI l 0 = 129 ∨ byteI l 0 = 130 ∨ byteI l 0 = 131 ∨ byteI l 0 = 132 := by omega
    rcases hf with hf | hf | hf | hf
    · exact refsizeX_1 c q w hb hf (by omega)
    · exact refsizeX_2 c q w hb hf (by omega)
    · exact refsizeX_3 c q w hb hf (by omega)
    · exact refsizeX_4 c q w hb hf (by omega)
end Go.Proofs.YthbpdhanljpigaaGreatDoor
namespace Go.Proofs.YthbpdhanljpigaaGreatDoor
open Go.RowKit
set_option linter.unusedVariables false
set_option maxRecDepth 100000
/-- What list returns. -/
def ListQ (w : World) (d : Nat) (r : Except Int (List Nd × Nat × Nat)) (en : Ending) (w' : World) : Prop := Ext w w' ∧
  ((∃ (A : Option Addr) (n c : Nat) (x y k : Int), r = .error k ∧ k ≠ 0 ∧ en = .returned (.tuple #[.slice A n c, .int .i64 x, .int .i64 y, .int .i64 k])) ∨
   (∃ ts c u A n cc, r = .ok (ts, c, u) ∧ en = .returned (.tuple #[.slice A n cc, .int .i64 ((u : Nat) : Int), .int .i64 ((c : Nat) : Int), .int .i64 0]) ∧ NdsS (fun b => w.heap.size ≤ b) d w' (.slice A n cc) ts))
def ListOkQ (q op : Bool) (d : Nat) : Prop := ∀ (w : World) (b : Value) (L : List UInt8) (cnt : Nat), Rd w b (bvs L) → L.length ≤ 4096 → cnt ≤ 256 →
  Calls Tryz.prog 149 #[b, .int .i64 (9 - (d : Int)), .int .i64 (cnt : Int), .bool q, .bool op] w (ListQ w d (objsX q op (9 - (d : Int)) cnt L))
/-- Where the loop of list stands. -/
def LiLq (w : World) (q op : Bool) (L : List UInt8) (d cnt : Nat) (dep : Int) (sofar out at_ : Value) (wr : World) : Prop :=
  ∃ (p c' : Nat) (A : Option Addr) (n cc : Nat) (xs : List Value) (done : List Nd), out = .slice A n cc ∧ at_ = .int .i64 (p : Int) ∧ sofar = .int .i64 (c' : Int) ∧ n = done.length ∧ p ≤ L.length ∧ done.length + cnt ≤ c' ∧ c' ≤ 256 ∧ Ext w wr ∧
    OwnK wr w.heap.size 83 3 (.slice A n cc) xs ∧ NdCells (fun b => w.heap.size ≤ b ∧ rowOf (.slice A n cc) ≠ some b) (d - 1) wr xs done ∧ (d = 0 → done = []) ∧
    objsX q op dep cnt L = addX done p (objsX q op dep c' (L.drop p))
theorem listQ_no {w w' : World} {d : Nat} {r : Except Int (List Nd × Nat × Nat)} {A : Option Addr} {n c : Nat} {x y k : Int} (hk : k ≠ 0) (hr : r = .error k) (h : Ext w w') : ListQ w d r (.returned (.tuple #[.slice A n c, .int .i64 x, .int .i64 y, .int .i64 k])) w' := ⟨h, .inl ⟨A, n, c, x, y, k, hr, hk, rfl⟩⟩
theorem moreX_f {p : Nat} {L : List UInt8} (h : p < L.length) : moreX false (L.drop p) := ⟨fun hh => absurd hh.1 (by decide), fun hh => absurd hh.1 (by decide), fun hh => by have := hh.2; rw [List.length_drop] at this; omega⟩
theorem objX1_head {q : Bool} {rec : RecX} {dep : Int} {cnt : Nat} {l : List UInt8} {e : Int} (h : headX q dep cnt l = .error e) : objX1 q rec dep cnt l = .error e := by unfold objX1; rw [h]
theorem objX1_tag {q : Bool} {rec : RecX} {dep : Int} {cnt : Nat} {l : List UInt8} {e : Int} (h : tagX l = .error e) : objX1 q rec dep cnt l = .error e := objX1_head (by unfold headX; rw [h])
theorem addX_err {d : List Nd} {k : Nat} {r : Except Int (List Nd × Nat × Nat)} {e : Int} (h : r = .error e) : addX d k r = .error e := by rw [h]; rfl
theorem tagX_neq {l : List UInt8} {k : Int} (h : tagX l = .error k) : k ≠ 0 := by rcases tagX_err h with h | h <;> omega
theorem lenX_neq {q c : Bool} {l : List UInt8} {k : Int} (h : lenX q c l = .error k) : k ≠ 0 := by rcases lenX_err h with h | h <;> omega
set_option maxHeartbeats 40000000 in
theorem listq_false {qq : Bool} {d : Nat} (hd9 : d ≤ 9) (H : ∀ d', d = d' + 1 → ListOkQ qq false d' ∧ ListOkQ qq true d') : ListOkQ qq false d := by
  intro w b L cnt hb hl hc
  have HH := Lib.hid H
  clear H
  obtain ⟨A0, n0, c0, rfl, hn0, hnc0, hcm0, hA0⟩ := hb.bytes
  subst hn0
  unfold maxLen at hcm0
  have HB := Lib.hid hb
  clear hb
  obtain ⟨dep, hdep⟩ : ∃ dep : Int, dep = 9 - (d : Int) := ⟨_, rfl⟩
  rw [← hdep]
  obtain ⟨hdepl, hdepu⟩ : 0 ≤ dep ∧ dep ≤ 9 := by omega
  have HDEP := Lib.hid hdep
  clear hdep
  have R0 : LiLq w qq false L d cnt dep (.int .i64 (cnt : Int)) (.slice none 0 0) (.int .i64 0) w :=
    ⟨0, cnt, none, 0, 0, [], [], rfl, rfl, rfl, rfl, Nat.zero_le _, by simp, hc, Below.refl _ _, OwnK.empty _ _ _ _ _, NdCells.nil _ _ _, fun _ => rfl, by
      rw [List.drop_zero, addX_nil]⟩
  have R0' := Lib.hid R0
  clear R0
  obtain ⟨r, hr⟩ : ∃ r, objsX qq false dep cnt L = r := ⟨_, rfl⟩
  rw [hr]
  have HRR := Lib.hid hr
  have HA0 := Lib.hid hA0
  clear hr hA0
  go_enter Tryz.func149, Tryz.ntmps149
  go_wp2
  go_loopw [2, 14, 15, 16, 17, 18, 19, 20, 97, 100, 103, 120, 138] (fun sofar out at_ _ _ _ _ _ _ _ _ _ _ wr => LiLq w qq false L d cnt dep sofar out at_ wr) (fun _ _ at_ _ _ _ _ _ _ _ _ _ _ _ => L.length - (intOf at_).toNat)
  case atStart => exact R0'.out
  case round =>
    obtain ⟨p, c', A, n, cc, xs, done, rfl, rfl, rfl, hn, hpe, hdc, hc6, bw, ow, nc, hd0, hP⟩ := hrel
    have HP := Lib.hid (HRR.out.symm.trans hP)
    have HN := Lib.hid hn
    clear hP hn
    by_cases hlt : p < L.length
    · obtain ⟨bb, o, rfl, hbl, hcell⟩ := HA0.out (by omega)
      have hlt' : ¬ (L.length : Int) ≤ (p : Int) := by omega
      have hcp : ¬ c0 = p := by omega
      have wi1 : IntKind.i64.wrap ((p : Int)) = (p : Int) := IntWalk.i64_in _ (by omega)
      have zi1 : (0 : Int) ≤ (p : Int) := by omega
      have li1 : (p : Int) < (L.length : Int) := by omega
      have ti1 : ((p : Int)).toNat = p := by omega
      have HMO := Lib.hid (moreX_f hlt)
      clear hcell
      have hpc : p ≤ c0 := by omega
      obtain ⟨r1, hr1⟩ : ∃ r1, objX1 qq (objsX qq) dep c' (L.drop p) = r1 := ⟨_, rfl⟩
      have HR1 := Lib.hid hr1
      clear hr1
      have HNE := Lib.hid (fun (ke : Int) (h : r1 = .error ke) => (show r = .error ke by rw [HP.out]; exact addX_err (objsX_err HMO.out (HR1.out.trans h))))
      have rdp := (HB.out.ext bw).dropB p (by omega)
      have RDP := Lib.hid rdp
      clear rdp
      go_wp2_with fail
      refine (reftagX_any _ RDP.out).mono ?_
      rintro en wa ⟨b1, hx⟩
      have x1 := bw.tr b1
      rcases hx with ⟨x, y, k, ht, rfl⟩ | ⟨t, k, ht, rfl⟩
      · have hk := tagX_neq ht
        have hk2 : (k != 0) = true := by simpa using hk
        have HNO := Lib.hid (HNE.out k (HR1.out.symm.trans (objX1_tag ht)))
        clear ht
        go_wp2_with fail
        refine bodyPost_ret (v := .tuple #[.slice none 0 0, .int .i64 0, .int .i64 0, .int .i64 k]) ?_ rfl (listQ_no hk HNO.out x1)
        simp [results, Tryz.results149, go_sem]
      · obtain ⟨k0, k1, k2, t0, t1, hv⟩ := tagX_bd ht
        rw [List.length_drop] at k2
        have HT := Lib.hid ht
        clear ht
        obtain ⟨p1, hp1⟩ : ∃ p1, p1 = p + k := ⟨_, rfl⟩
        have ep1 : (p : Int) + (k : Int) = (p1 : Int) := by omega
        have HP1 := Lib.hid hp1
        have hp1l : p1 ≤ L.length := by omega
        have wp1 : IntKind.i64.wrap ((p : Int) + (k : Int)) = (p1 : Int) := by rw [ep1]; exact IntWalk.i64_in _ (by omega)
        clear hp1 ep1
        obtain ⟨q, hq⟩ : ∃ q, consT t = q := ⟨_, rfl⟩
        have HQ := Lib.hid hq
        have HCO := fun w => refcons_any t w t0 t1
        rw [hq] at HCO
        have HCO' := Lib.hid HCO
        clear HCO hq
        have rs := fun (W : World) (h : Ext wa W) => ((HB.out.ext x1).ext h).cut p1 L.length hp1l (by rw [bvs_length]; exact Nat.le_refl _)
        have e1 : ((bvs L).drop p1).take (L.length - p1) = bvs (L.drop p1) := by
          rw [List.take_of_length_le (by rw [List.length_drop, bvs_length]; exact Nat.le_refl _)]
          simp [bvs, List.map_drop]
        rw [e1] at rs
        have e2 : (if c0 = p1 then some (⟨bb, o, none⟩ : Addr) else (some (⟨bb, o, none⟩ : Addr)).map (·.add p1)) = (if c0 = p1 then some (⟨bb, o, none⟩ : Addr) else some ⟨bb, o + p1, none⟩) := by simp [Addr.add_lit]
        rw [e2] at rs
        obtain ⟨A9, hA9⟩ : ∃ A9, (if c0 = p1 then some (⟨bb, o, none⟩ : Addr) else some ⟨bb, o + p1, none⟩) = A9 := ⟨_, rfl⟩
        rw [hA9] at rs
        clear e2
        have RS := Lib.hid rs
        clear rs e1
        have wi2 : IntKind.i64.wrap ((p1 : Int)) = (p1 : Int) := IntWalk.i64_in _ (by omega)
        have zi2 : (0 : Int) ≤ (p1 : Int) := by omega
        have li2 : (p1 : Int) < (L.length : Int) + 1 := by omega
        have ti2 : ((p1 : Int)).toNat = p1 := by omega
        cases hlp : lenX qq q (L.drop p1) with
        | error ze =>
          have hz0 := lenX_neq hlp
          have HZ := Lib.hid (szX_no hlp)
          have hk2 : (ze != 0) = true := by simpa using hz0
          have HNO := Lib.hid (HNE.out ze (HR1.out.symm.trans (objX1_head (by unfold headX; rw [HT.out]; simp only [List.drop_drop]; rw [HQ.out, ← HP1.out, hlp]))))
          clear hlp
          go_wp2_with (first
            | (go_quiet (first
              | (go_at_call 156; exact (HCO'.out _).mono fun _ _ ⟨h1, h2⟩ => ⟨h1, _, h2.symm⟩)
              | (go_at_call 175; exact (refsizeX_any q qq _ (RS.out _ (Ext.drewN_ _ _))).mono fun _ _ ⟨h1, h2⟩ => ⟨h1.trans (by rw [HZ.out]), _, h2.symm⟩))))
          refine bodyPost_ret (v := .tuple #[.slice none 0 0, .int .i64 0, .int .i64 0, .int .i64 ze]) ?_ rfl (listQ_no hz0 HNO.out (x1.tr (Ext.drewN_ _ _)))
          simp [results, Tryz.results149, go_sem]
        | ok v =>
          obtain ⟨nI, j⟩ := v
          obtain ⟨j0, j1, j2, n3, n4, n5⟩ := lenX_bd hlp
          rw [List.length_drop] at j2
          have N34 := Lib.hid (And.intro n3 n4)
          clear n3 n4
          have hhead : headX qq dep c' (L.drop p) = if 8 < dep then .error 7 else if 256 < c' + 1 then .error 2 else if ((L.length - p : Nat) : Int) - (k + j : Nat) < nI then .error 6 else .ok (t, k + j, nI) := by
            unfold headX
            rw [HT.out]
            simp only [List.drop_drop, List.length_drop]
            rw [HQ.out, ← HP1.out, hlp]
          have HHD := Lib.hid hhead
          have HN5 := Lib.hid n5
          have HZ := Lib.hid (szX_yes hlp)
          have hcp1 : ¬ c0 = p1 := by omega
          have RS2 := Lib.hid (fun (W : World) (h : Ext wa W) => ((HB.out.ext x1).ext h).dropB p1 hp1l)
          clear hlp hhead hA9 RS n5
          obtain ⟨p2, hp2⟩ : ∃ p2, p2 = p1 + j := ⟨_, rfl⟩
          have ep2 : (p1 : Int) + (j : Int) = (p2 : Int) := by omega
          have HP2 := Lib.hid hp2
          have hp2l : p2 ≤ L.length := by omega
          have wp2 : IntKind.i64.wrap ((p1 : Int) + (j : Int)) = (p2 : Int) := by rw [ep2]; exact IntWalk.i64_in _ (by omega)
          clear hp2 ep2
          have wc : IntKind.i64.wrap ((c' : Int) + 1) = (c' : Int) + 1 := IntWalk.i64_in _ (by omega)
          have wlp : IntKind.i64.wrap ((L.length : Int) - (p2 : Int)) = (L.length : Int) - (p2 : Int) := IntWalk.i64_in _ (by omega)
          by_cases hd8 : 8 < dep
          · have HNO := Lib.hid (HNE.out 7 (HR1.out.symm.trans (objX1_head (HHD.out.trans (if_pos hd8)))))
            go_wp2_with (first
              | (go_quiet (first
                | (go_at_call 156; exact (HCO'.out _).mono fun _ _ ⟨h1, h2⟩ => ⟨h1, _, h2.symm⟩)
                | (go_at_call 175; exact (refsizeX_any q qq _ (RS2.out _ (Ext.drewN_ _ _))).mono fun _ _ ⟨h1, h2⟩ => ⟨h1.trans (by rw [HZ.out]), _, h2.symm⟩))))
            refine bodyPost_ret (v := .tuple #[.slice none 0 0, .int .i64 0, .int .i64 0, .int .i64 7]) ?_ rfl (listQ_no (by decide) HNO.out (x1.tr (Ext.drewN_ _ _)))
            simp [results, Tryz.results149, go_sem]
          · have hd0 : 1 ≤ d := by have := HDEP.out; omega
            have HH1 := Lib.hid (HHD.out.trans (if_neg hd8))
            clear HHD
            by_cases hcn : 256 < (c' : Int) + 1
            · have HNO := Lib.hid (HNE.out 2 (HR1.out.symm.trans (objX1_head (HH1.out.trans (if_pos (by omega))))))
              go_wp2_with (first
                | (go_quiet (first
                  | (go_at_call 156; exact (HCO'.out _).mono fun _ _ ⟨h1, h2⟩ => ⟨h1, _, h2.symm⟩)
                  | (go_at_call 175; exact (refsizeX_any q qq _ (RS2.out _ (Ext.drewN_ _ _))).mono fun _ _ ⟨h1, h2⟩ => ⟨h1.trans (by rw [HZ.out]), _, h2.symm⟩))))
              refine bodyPost_ret (v := .tuple #[.slice none 0 0, .int .i64 0, .int .i64 0, .int .i64 2]) ?_ rfl (listQ_no (by decide) HNO.out (x1.tr (Ext.drewN_ _ _)))
              simp [results, Tryz.results149, go_sem]
            · have HH2 := Lib.hid (HH1.out.trans (if_neg (by omega)))
              clear HH1
              by_cases hfit : (L.length : Int) - (p2 : Int) < nI
              · have HNO := Lib.hid (HNE.out 6 (HR1.out.symm.trans (objX1_head (HH2.out.trans (if_pos (by have := HP1.out; have := HP2.out; omega))))))
                go_wp2_with (first
                  | (go_quiet (first
                    | (go_at_call 156; exact (HCO'.out _).mono fun _ _ ⟨h1, h2⟩ => ⟨h1, _, h2.symm⟩)
                    | (go_at_call 175; exact (refsizeX_any q qq _ (RS2.out _ (Ext.drewN_ _ _))).mono fun _ _ ⟨h1, h2⟩ => ⟨h1.trans (by rw [HZ.out]), _, h2.symm⟩))))
                refine bodyPost_ret (v := .tuple #[.slice none 0 0, .int .i64 0, .int .i64 0, .int .i64 6]) ?_ rfl (listQ_no (by decide) HNO.out (x1.tr (Ext.drewN_ _ _)))
                simp [results, Tryz.results149, go_sem]
              · have hrr : r1 = objX1 qq (objsX qq) dep c' (L.drop p) := HR1.out.symm
                unfold objX1 at hrr
                rw [HH2.out, if_neg (by have := HP1.out; have := HP2.out; omega)] at hrr
                simp only [List.drop_drop] at hrr
                rw [show p + (k + j) = p2 by have := HP1.out; have := HP2.out; omega, HQ.out] at hrr
                have HRY0 := Lib.hid hrr
                clear hrr HH2
                obtain ⟨d', rfl⟩ : ∃ d', d = d' + 1 := ⟨d - 1, by omega⟩
                have wdd : IntKind.i64.wrap (dep + 1) = dep + 1 := IntWalk.i64_in _ (by omega)
                by_cases hneg : nI < 0
                · have hm1 : nI = -1 := by have := N34.out.1; omega
                  subst hm1
                  clear N34
                  have HRX0 := Lib.hid (HRY0.out.trans (if_pos (by decide)))
                  clear HRY0 HN5 hneg
                  have RS3F := fun (W : World) (e : Ext w W) => (HB.out.ext e).cut p2 L.length hp2l (by rw [bvs_length]; exact Nat.le_refl _)
                  have e3 : ((bvs L).drop p2).take (L.length - p2) = bvs (L.drop p2) := by
                    rw [List.take_of_length_le (by rw [List.length_drop, bvs_length]; exact Nat.le_refl _)]
                    simp [bvs, List.map_drop]
                  have e4 : (if c0 = p2 then some (⟨bb, o, none⟩ : Addr) else (some (⟨bb, o, none⟩ : Addr)).map (·.add p2)) = (if c0 = p2 then some (⟨bb, o, none⟩ : Addr) else some ⟨bb, o + p2, none⟩) := by simp [Addr.add_lit]
                  obtain ⟨A8, hA8⟩ : ∃ A8, (if c0 = p2 then some (⟨bb, o, none⟩ : Addr) else some ⟨bb, o + p2, none⟩) = A8 := ⟨_, rfl⟩
                  simp only [e3, e4, hA8] at RS3F
                  have RS3H := Lib.hid RS3F
                  clear e3 e4 RS3F
                  have wi3 : IntKind.i64.wrap ((p2 : Int)) = (p2 : Int) := IntWalk.i64_in _ (by omega)
                  have zi3 : (0 : Int) ≤ (p2 : Int) := by omega
                  have li3 : (p2 : Int) < (L.length : Int) + 1 := by omega
                  have ti3 : ((p2 : Int)).toNat = p2 := by omega
                  have hpc2 : p2 ≤ c0 := by omega
                  go_wp2_with (first
                    | (go_quiet (first
                      | (go_at_call 156; exact (HCO'.out _).mono fun _ _ ⟨h1, h2⟩ => ⟨h1, _, h2.symm⟩)
                      | (go_at_call 175; exact (refsizeX_any q qq _ (RS2.out _ (Ext.drewN_ _ _))).mono fun _ _ ⟨h1, h2⟩ => ⟨h1.trans (by rw [HZ.out]), _, h2.symm⟩)); have xq := Ext.drewN_ wa nq; generalize wa.drewN nq = wb at *))
                  have hxc5 := C3.new wb (.int .i64 t) (.slice none 0 0) (.slice none 0 0)
                  have x5 : Ext wb (wb.alloc (.cells #[.int .i64 t, .slice none 0 0, .slice none 0 0] 83)) := (Below.refl _ _).alloc (Nat.le_refl _) _
                  have hl5 := hxc5.lt
                  generalize wb.alloc (.cells #[.int .i64 t, .slice none 0 0, .slice none 0 0] 83) = W5 at *
                  have xw5 : Ext wr W5 := b1.tr (xq.tr x5)
                  obtain ⟨y0, y1, y2, yf0, yf1, yf2⟩ := hxc5.cells
                  have RS3 := Lib.hid (RS3H.out _ (bw.tr xw5))
                  have sz5 := x5.size
                  have hwb5 : wb.heap.size < W5.heap.size := hl5
                  have hO := (HH.out d' rfl).2 W5 _ _ (c' + 1) RS3.out (by rw [List.length_drop]; omega) (by omega)
                  rw [show (9 : Int) - (d' : Int) = dep + 1 by have := HDEP.out; omega, show ((c' + 1 : Nat) : Int) = (c' : Int) + 1 by omega] at hO
                  have HO := Lib.hid hO
                  clear hO
                  go_wp2_with fail
                  refine HO.out.mono ?_
                  rintro en w6 ⟨b6, hx⟩
                  have hxc6 : C3 w6 wb.heap.size (.int .i64 t) (.slice none 0 0) (.slice none 0 0) := hxc5.ext b6
                  have hl6 := hxc6.lt
                  clear y0 y1 y2 yf0 yf1 yf2
                  obtain ⟨y0, y1, y2, yf0, yf1, yf2⟩ := hxc6.cells
                  rcases hx with ⟨A6, n6, c6, x, y, kk, hn0, hkk, rfl⟩ | ⟨ks, c1, uu, A6, n6, c6, hn0, rfl, nd6⟩
                  · have hkk2 : (kk != 0) = true := by simpa using hkk
                    have HNO := Lib.hid (HNE.out kk (by rw [HRX0.out, hn0]))
                    clear hn0
                    go_wp2_with fail
                    refine bodyPost_ret (v := .tuple #[.slice none 0 0, .int .i64 0, .int .i64 0, .int .i64 kk]) ?_ rfl (listQ_no hkk HNO.out (((bw.tr xw5).tr b6).setCell (p := ⟨wb.heap.size, 2, none⟩) (by have := (b1.tr xq).size; have := bw.size; show w.heap.size ≤ wb.heap.size; omega) _))
                    simp [results, Tryz.results149, go_sem]
                  · have HRX := Lib.hid (show r1 = .ok (Nd.mk t [] ks, c1, k + j + uu) by rw [HRX0.out, hn0])
                    have huu := objsX_used hn0
                    rw [List.length_drop] at huu
                    have wpn : IntKind.i64.wrap ((p2 : Int) + (uu : Int)) = (p2 : Int) + (uu : Int) := IntWalk.i64_in _ (by omega)
                    clear hn0
                    have xb6 : Gb wb.heap.size wr ((w6.setCell ⟨wb.heap.size, 2, none⟩ (.slice A6 n6 c6)).alloc (.cells #[.int .i64 t, .slice none 0 0, .slice A6 n6 c6] 83)) := ((Gb.of _ (xw5.tr b6)).tr (Gb.set wb.heap.size 2 _ _)).tr (Gb.of _ ((Below.refl _ _).alloc (Nat.le_refl _) _))
                    have hrow := rowOf_geK ow
                    have hrlt := rowOf_ltK ow
                    have sW := bw.size
                    have sWr : wr.heap.size ≤ wb.heap.size := (b1.tr xq).size
                    have ow2 := ow.grown xb6 (by
                      cases hq : rowOf (.slice A n cc) with
                      | none => exact .inl rfl
                      | some r => exact .inr (fun h => by have := hrlt r hq; injection h with h; omega))
                    have nc2 := nc.map (S' := fun b => w.heap.size ≤ b ∧ rowOf (.slice A n cc) ≠ some b) (w' := (w6.setCell ⟨wb.heap.size, 2, none⟩ (.slice A6 n6 c6)).alloc (.cells #[.int .i64 t, .slice none 0 0, .slice A6 n6 c6] 83)) (fun b hb hbl => ⟨hb, xb6.block b hbl (fun h => by injection h with h; omega)⟩)
                    have hm : ∀ b, W5.heap.size ≤ b → b < w6.heap.size → (w.heap.size ≤ b ∧ rowOf (.slice A n cc) ≠ some b) ∧ ((w6.setCell ⟨wb.heap.size, 2, none⟩ (.slice A6 n6 c6)).alloc (.cells #[.int .i64 t, .slice none 0 0, .slice A6 n6 c6] 83)).heap[b]? = w6.heap[b]? := fun b hb hbl =>
                      ⟨⟨by omega, fun h => by have := hrlt b h; omega⟩, (((Below.refl _ _).alloc (Nat.le_refl _) _ : Ext (w6.setCell ⟨wb.heap.size, 2, none⟩ (.slice A6 n6 c6)) _).block b (by simpa using hbl)).trans (setCell_block (by omega))⟩
                    have r1' : RdS (fun b => w.heap.size ≤ b ∧ rowOf (.slice A n cc) ≠ some b) ((w6.setCell ⟨wb.heap.size, 2, none⟩ (.slice A6 n6 c6)).alloc (.cells #[.int .i64 t, .slice none 0 0, .slice A6 n6 c6] 83)) (.slice none 0 0) (bvs (Nd.mk t [] ks).val) := RdS.nil _
                    have r2' := nd6.map hm
                    clear nd6
                    have R := RdK.lit (w6.setCell ⟨wb.heap.size, 2, none⟩ (.slice A6 n6 c6)) 3 #[.int .i64 t, .slice none 0 0, .slice A6 n6 c6] 83 1 rfl (by unfold maxLen; omega)
                    rw [show (w6.setCell ⟨wb.heap.size, 2, none⟩ (.slice A6 n6 c6)).heap.size = w6.heap.size by simp] at R
                    have hWz : w.heap.size ≤ ((w6.setCell ⟨wb.heap.size, 2, none⟩ (.slice A6 n6 c6)).alloc (.cells #[.int .i64 t, .slice none 0 0, .slice A6 n6 c6] 83)).heap.size := Nat.le_trans sW xb6.size
                    obtain ⟨u0, u1⟩ := objX1_usedX (HR1.out.trans HRX.out)
                    rw [List.length_drop] at u1
                    obtain ⟨c10, c11⟩ := objX1_cntQ (HR1.out.trans HRX.out)
                    have hstep := objsX_ok HMO.out (HR1.out.trans HRX.out)
                    rw [List.drop_drop] at hstep
                    have HST := Lib.hid hstep
                    have hgb : Ext w ((w6.setCell ⟨wb.heap.size, 2, none⟩ (.slice A6 n6 c6)).alloc (.cells #[.int .i64 t, .slice none 0 0, .slice A6 n6 c6] 83)) := Gb.below bw xb6 (by omega)
                    have HSUM := Lib.hid (show p + (k + j + uu) = p2 + uu by have := HP1.out; have := HP2.out; omega)
                    clear hm nc ow hrow hrlt hstep
                    go_wp2_with (refine appNd (S0 := fun b => w.heap.size ≤ b) (B := w.heap.size) (t := Nd.mk t [] ks) ow2 nc2 R r1' r2' (by omega) hWz rfl rfl rfl rfl ?_; intro A7 n7 c7 w8 hn7 o8 nc8 g8 hge)
                    have HN8 := hn7.out
                    have e8 : Ext w w8 := hgb.grown g8 hWz hge
                    have hP8 : objsX qq false dep cnt L = addX (done ++ [Nd.mk t [] ks]) (p2 + uu) (objsX qq false dep c1 (L.drop (p2 + uu))) := by
                      rw [HRR.out, HP.out, HST.out, addX_addX, HSUM.out]
                    go_roundw
                    case rel => exact ⟨p2 + uu, c1, A7, n7, c7, _, done ++ [Nd.mk t [] ks], rfl, congrArg (Value.int .i64) (by omega), congrArg (Value.int .i64) (by omega), by rw [HN8]; simp, by have := HSUM.out; omega, by simp; omega, c10, e8, o8, nc8, fun h => by omega, hP8⟩
                    case measure => simp [intOf]; have := HSUM.out; omega
                · obtain ⟨n2, rfl⟩ : ∃ n2 : Nat, nI = (n2 : Int) := ⟨nI.toNat, by omega⟩
                  have hn20 : ¬ (n2 : Int) < 0 := by omega
                  clear N34
                  have HRZ := Lib.hid (HRY0.out.trans (if_neg hneg))
                  clear HRY0 HN5 hneg
                  go_wp2_with (first
                    | (go_quiet (first
                      | (go_at_call 156; exact (HCO'.out _).mono fun _ _ ⟨h1, h2⟩ => ⟨h1, _, h2.symm⟩)
                      | (go_at_call 175; exact (refsizeX_any q qq _ (RS2.out _ (Ext.drewN_ _ _))).mono fun _ _ ⟨h1, h2⟩ => ⟨h1.trans (by rw [HZ.out]), _, h2.symm⟩)); have xq := Ext.drewN_ wa nq; generalize wa.drewN nq = wb at *))
                  have hxc5 := C3.new wb (.int .i64 t) (.slice none 0 0) (.slice none 0 0)
                  have x5 : Ext wb (wb.alloc (.cells #[.int .i64 t, .slice none 0 0, .slice none 0 0] 83)) := (Below.refl _ _).alloc (Nat.le_refl _) _
                  have hl5 := hxc5.lt
                  generalize wb.alloc (.cells #[.int .i64 t, .slice none 0 0, .slice none 0 0] 83) = W5 at *
                  have xw5 : Ext wr W5 := b1.tr (xq.tr x5)
                  refine (HCO'.out _).mono ?_
                  rintro en' w5' ⟨rfl, rfl⟩
                  obtain ⟨y0, y1, y2, yf0, yf1, yf2⟩ := hxc5.cells
                  have rs3 := ((HB.out.ext bw).ext xw5).cut p2 (p2 + n2) (by omega) (by rw [bvs_length]; have := HP1.out; have := HP2.out; omega)
                  have e3 : ((bvs L).drop p2).take (p2 + n2 - p2) = bvs ((L.drop p2).take n2) := by rw [Nat.add_sub_cancel_left]; simp [bvs, List.map_drop, List.map_take]
                  have e4 : (if c0 = p2 then some (⟨bb, o, none⟩ : Addr) else (some (⟨bb, o, none⟩ : Addr)).map (·.add p2)) = (if c0 = p2 then some (⟨bb, o, none⟩ : Addr) else some ⟨bb, o + p2, none⟩) := by simp [Addr.add_lit]
                  rw [e3, e4, Nat.add_sub_cancel_left] at rs3
                  obtain ⟨A8, hA8⟩ : ∃ A8, (if c0 = p2 then some (⟨bb, o, none⟩ : Addr) else some ⟨bb, o + p2, none⟩) = A8 := ⟨_, rfl⟩
                  rw [hA8] at rs3
                  have RS3 := Lib.hid rs3
                  clear e3 e4 rs3
                  have wpn : IntKind.i64.wrap ((p2 : Int) + (n2 : Int)) = (p2 : Int) + (n2 : Int) := IntWalk.i64_in _ (by omega)
                  have hpn : p2 + n2 ≤ c0 := by omega
                  have tpn : ((p2 : Int) + (n2 : Int)).toNat = p2 + n2 := by omega
                  have lpn : (p2 : Int) + (n2 : Int) ≤ (c0 : Int) := by omega
                  have lpn2 : (p2 : Int) ≤ (p2 : Int) + (n2 : Int) := by omega
                  have l0p : (0 : Int) ≤ (p2 : Int) := by omega
                  have l0pn : (0 : Int) ≤ (p2 : Int) + (n2 : Int) := by omega
                  have sz5 := x5.size
                  have hwb5 : wb.heap.size < W5.heap.size := hl5
                  cases q
                  · have HRX := Lib.hid (show r1 = .ok (Nd.mk t ((L.drop p2).take n2) [], c' + 1, k + j + n2) by rw [HRZ.out, if_neg (by decide), Int.toNat_natCast])
                    clear HRZ
                    go_wp2_with (first
                      | (refine appN (ys := (L.drop p2).take n2) (w0 := W5) (B := W5.heap.size) RS3.out (Below.refl _ _) (by rw [List.length_take, List.length_drop]; omega) (Nat.le_refl _) rfl rfl rfl rfl ?_; intro A6 n6 c6 w6 hn6 o6 b6 g6
                         have b6 : Ext W5 w6 := b6
                         have hxc6 := hxc5.ext b6
                         have hl6 := hxc6.lt
                         obtain ⟨z0, z1, z2, zf0, zf1, zf2⟩ := hxc6.cells
                         have xb6 : Gb wb.heap.size wr ((w6.setCell ⟨wb.heap.size, 1, none⟩ (.slice A6 n6 c6)).alloc (.cells #[.int .i64 t, .slice A6 n6 c6, .slice none 0 0] 83)) := ((Gb.of _ (xw5.tr b6)).tr (Gb.set wb.heap.size 1 _ _)).tr (Gb.of _ ((Below.refl _ _).alloc (Nat.le_refl _) _))
                         have hrow := rowOf_geK ow
                         have hrlt := rowOf_ltK ow
                         have sW := bw.size
                         have sWr : wr.heap.size ≤ wb.heap.size := (b1.tr xq).size
                         have ow2 := ow.grown xb6 (by
                           cases hq : rowOf (.slice A n cc) with
                           | none => exact .inl rfl
                           | some r => exact .inr (fun h => by have := hrlt r hq; injection h with h; omega))
                         have nc2 := nc.map (S' := fun b => w.heap.size ≤ b ∧ rowOf (.slice A n cc) ≠ some b) (w' := (w6.setCell ⟨wb.heap.size, 1, none⟩ (.slice A6 n6 c6)).alloc (.cells #[.int .i64 t, .slice A6 n6 c6, .slice none 0 0] 83)) (fun b hb hbl => ⟨hb, xb6.block b hbl (fun h => by injection h with h; omega)⟩)
                         have hm : ∀ b, W5.heap.size ≤ b → b < w6.heap.size → (w.heap.size ≤ b ∧ rowOf (.slice A n cc) ≠ some b) ∧ ((w6.setCell ⟨wb.heap.size, 1, none⟩ (.slice A6 n6 c6)).alloc (.cells #[.int .i64 t, .slice A6 n6 c6, .slice none 0 0] 83)).heap[b]? = w6.heap[b]? := fun b hb hbl =>
                           ⟨⟨by omega, fun h => by have := hrlt b h; omega⟩, (((Below.refl _ _).alloc (Nat.le_refl _) _ : Ext (w6.setCell ⟨wb.heap.size, 1, none⟩ (.slice A6 n6 c6)) _).block b (by simpa using hbl)).trans (setCell_block (by omega))⟩
                         have r1' := (RdS.of o6 (S := fun b => W5.heap.size ≤ b) (fun b h => h)).map hm
                         have r2' : NdsS (fun b => w.heap.size ≤ b ∧ rowOf (.slice A n cc) ≠ some b) (d' + 1 - 1) ((w6.setCell ⟨wb.heap.size, 1, none⟩ (.slice A6 n6 c6)).alloc (.cells #[.int .i64 t, .slice A6 n6 c6, .slice none 0 0] 83)) (.slice none 0 0) (Nd.mk t ((L.drop p2).take n2) []).kids := NdsS.nil _ _
                         clear o6 hn6
                         have R := RdK.lit (w6.setCell ⟨wb.heap.size, 1, none⟩ (.slice A6 n6 c6)) 3 #[.int .i64 t, .slice A6 n6 c6, .slice none 0 0] 83 1 rfl (by unfold maxLen; omega)
                         rw [show (w6.setCell ⟨wb.heap.size, 1, none⟩ (.slice A6 n6 c6)).heap.size = w6.heap.size by simp] at R
                         have hWz : w.heap.size ≤ ((w6.setCell ⟨wb.heap.size, 1, none⟩ (.slice A6 n6 c6)).alloc (.cells #[.int .i64 t, .slice A6 n6 c6, .slice none 0 0] 83)).heap.size := Nat.le_trans sW xb6.size
                         obtain ⟨u0, u1⟩ := objX1_usedX (HR1.out.trans HRX.out)
                         rw [List.length_drop] at u1
                         obtain ⟨c10, c11⟩ := objX1_cntQ (HR1.out.trans HRX.out)
                         have hstep := objsX_ok HMO.out (HR1.out.trans HRX.out)
                         rw [List.drop_drop] at hstep
                         have HST := Lib.hid hstep
                         have hgb : Ext w ((w6.setCell ⟨wb.heap.size, 1, none⟩ (.slice A6 n6 c6)).alloc (.cells #[.int .i64 t, .slice A6 n6 c6, .slice none 0 0] 83)) := Gb.below bw xb6 (by omega)
                         have HSUM := Lib.hid (show p + (k + j + n2) = p2 + n2 by have := HP1.out; have := HP2.out; omega)
                         clear hm nc ow hrow hrlt hstep)
                      | (refine appNd (S0 := fun b => w.heap.size ≤ b) (B := w.heap.size) (t := Nd.mk t ((L.drop p2).take n2) []) ow2 nc2 R r1' r2' (by omega) hWz rfl rfl rfl rfl ?_; intro A7 n7 c7 w8 hn7 o8 nc8 g8 hge))
                    have HN8 := hn7.out
                    have e8 : Ext w w8 := hgb.grown g8 hWz hge
                    have hP8 : objsX qq false dep cnt L = addX (done ++ [Nd.mk t ((L.drop p2).take n2) []]) (p2 + n2) (objsX qq false dep (c' + 1) (L.drop (p2 + n2))) := by
                      rw [HRR.out, HP.out, HST.out, addX_addX, HSUM.out]
                    go_roundw
                    case rel => exact ⟨p2 + n2, (c' + 1), A7, n7, c7, _, done ++ [Nd.mk t ((L.drop p2).take n2) []], rfl, congrArg (Value.int .i64) (by omega), congrArg (Value.int .i64) (by omega), by rw [HN8]; simp, by have := HSUM.out; omega, by simp; omega, c10, e8, o8, nc8, fun h => by omega, hP8⟩
                    case measure => simp [intOf]; have := HSUM.out; omega
                  · have hO := (HH.out d' rfl).1 W5 _ _ (c' + 1) RS3.out (by rw [List.length_take, List.length_drop]; omega) (by omega)
                    rw [show (9 : Int) - (d' : Int) = dep + 1 by have := HDEP.out; omega, show ((c' + 1 : Nat) : Int) = (c' : Int) + 1 by omega] at hO
                    have HRX0 := Lib.hid (HRZ.out.trans (if_pos rfl))
                    clear HRZ
                    have HO := Lib.hid hO
                    clear hO
                    go_wp2_with fail
                    refine HO.out.mono ?_
                    rintro en w6 ⟨b6, hx⟩
                    have hxc6 : C3 w6 wb.heap.size (.int .i64 t) (.slice none 0 0) (.slice none 0 0) := hxc5.ext b6
                    have hl6 := hxc6.lt
                    clear y0 y1 y2 yf0 yf1 yf2
                    obtain ⟨y0, y1, y2, yf0, yf1, yf2⟩ := hxc6.cells
                    rcases hx with ⟨A6, n6, c6, x, y, kk, hn0, hkk, rfl⟩ | ⟨ks, c1, uu, A6, n6, c6, hn0, rfl, nd6⟩
                    · have hkk2 : (kk != 0) = true := by simpa using hkk
                      have HNO := Lib.hid (HNE.out kk (by rw [HRX0.out, Int.toNat_natCast, hn0]))
                      clear hn0
                      go_wp2_with fail
                      refine bodyPost_ret (v := .tuple #[.slice none 0 0, .int .i64 0, .int .i64 0, .int .i64 kk]) ?_ rfl (listQ_no hkk HNO.out (((bw.tr xw5).tr b6).setCell (p := ⟨wb.heap.size, 2, none⟩) (by have := (b1.tr xq).size; have := bw.size; show w.heap.size ≤ wb.heap.size; omega) _))
                      simp [results, Tryz.results149, go_sem]
                    · have HRX := Lib.hid (show r1 = .ok (Nd.mk t [] ks, c1, k + j + n2) by rw [HRX0.out, Int.toNat_natCast, hn0])
                      clear hn0
                      have xb6 : Gb wb.heap.size wr ((w6.setCell ⟨wb.heap.size, 2, none⟩ (.slice A6 n6 c6)).alloc (.cells #[.int .i64 t, .slice none 0 0, .slice A6 n6 c6] 83)) := ((Gb.of _ (xw5.tr b6)).tr (Gb.set wb.heap.size 2 _ _)).tr (Gb.of _ ((Below.refl _ _).alloc (Nat.le_refl _) _))
                      have hrow := rowOf_geK ow
                      have hrlt := rowOf_ltK ow
                      have sW := bw.size
                      have sWr : wr.heap.size ≤ wb.heap.size := (b1.tr xq).size
                      have ow2 := ow.grown xb6 (by
                        cases hq : rowOf (.slice A n cc) with
                        | none => exact .inl rfl
                        | some r => exact .inr (fun h => by have := hrlt r hq; injection h with h; omega))
                      have nc2 := nc.map (S' := fun b => w.heap.size ≤ b ∧ rowOf (.slice A n cc) ≠ some b) (w' := (w6.setCell ⟨wb.heap.size, 2, none⟩ (.slice A6 n6 c6)).alloc (.cells #[.int .i64 t, .slice none 0 0, .slice A6 n6 c6] 83)) (fun b hb hbl => ⟨hb, xb6.block b hbl (fun h => by injection h with h; omega)⟩)
                      have hm : ∀ b, W5.heap.size ≤ b → b < w6.heap.size → (w.heap.size ≤ b ∧ rowOf (.slice A n cc) ≠ some b) ∧ ((w6.setCell ⟨wb.heap.size, 2, none⟩ (.slice A6 n6 c6)).alloc (.cells #[.int .i64 t, .slice none 0 0, .slice A6 n6 c6] 83)).heap[b]? = w6.heap[b]? := fun b hb hbl =>
                        ⟨⟨by omega, fun h => by have := hrlt b h; omega⟩, (((Below.refl _ _).alloc (Nat.le_refl _) _ : Ext (w6.setCell ⟨wb.heap.size, 2, none⟩ (.slice A6 n6 c6)) _).block b (by simpa using hbl)).trans (setCell_block (by omega))⟩
                      have r1' : RdS (fun b => w.heap.size ≤ b ∧ rowOf (.slice A n cc) ≠ some b) ((w6.setCell ⟨wb.heap.size, 2, none⟩ (.slice A6 n6 c6)).alloc (.cells #[.int .i64 t, .slice none 0 0, .slice A6 n6 c6] 83)) (.slice none 0 0) (bvs (Nd.mk t [] ks).val) := RdS.nil _
                      have r2' := nd6.map hm
                      clear nd6
                      have R := RdK.lit (w6.setCell ⟨wb.heap.size, 2, none⟩ (.slice A6 n6 c6)) 3 #[.int .i64 t, .slice none 0 0, .slice A6 n6 c6] 83 1 rfl (by unfold maxLen; omega)
                      rw [show (w6.setCell ⟨wb.heap.size, 2, none⟩ (.slice A6 n6 c6)).heap.size = w6.heap.size by simp] at R
                      have hWz : w.heap.size ≤ ((w6.setCell ⟨wb.heap.size, 2, none⟩ (.slice A6 n6 c6)).alloc (.cells #[.int .i64 t, .slice none 0 0, .slice A6 n6 c6] 83)).heap.size := Nat.le_trans sW xb6.size
                      obtain ⟨u0, u1⟩ := objX1_usedX (HR1.out.trans HRX.out)
                      rw [List.length_drop] at u1
                      obtain ⟨c10, c11⟩ := objX1_cntQ (HR1.out.trans HRX.out)
                      have hstep := objsX_ok HMO.out (HR1.out.trans HRX.out)
                      rw [List.drop_drop] at hstep
                      have HST := Lib.hid hstep
                      have hgb : Ext w ((w6.setCell ⟨wb.heap.size, 2, none⟩ (.slice A6 n6 c6)).alloc (.cells #[.int .i64 t, .slice none 0 0, .slice A6 n6 c6] 83)) := Gb.below bw xb6 (by omega)
                      have HSUM := Lib.hid (show p + (k + j + n2) = p2 + n2 by have := HP1.out; have := HP2.out; omega)
                      clear hm nc ow hrow hrlt hstep
                      go_wp2_with (refine appNd (S0 := fun b => w.heap.size ≤ b) (B := w.heap.size) (t := Nd.mk t [] ks) ow2 nc2 R r1' r2' (by omega) hWz rfl rfl rfl rfl ?_; intro A7 n7 c7 w8 hn7 o8 nc8 g8 hge)
                      have HN8 := hn7.out
                      have e8 : Ext w w8 := hgb.grown g8 hWz hge
                      have hP8 : objsX qq false dep cnt L = addX (done ++ [Nd.mk t [] ks]) (p2 + n2) (objsX qq false dep c1 (L.drop (p2 + n2))) := by
                        rw [HRR.out, HP.out, HST.out, addX_addX, HSUM.out]
                      go_roundw
                      case rel => exact ⟨p2 + n2, c1, A7, n7, c7, _, done ++ [Nd.mk t [] ks], rfl, congrArg (Value.int .i64) (by omega), congrArg (Value.int .i64) (by omega), by rw [HN8]; simp, by have := HSUM.out; omega, by simp; omega, c10, e8, o8, nc8, fun h => by omega, hP8⟩
                      case measure => simp [intOf]; have := HSUM.out; omega
    · obtain rfl : p = L.length := by omega
      have hr2 := HP.out
      rw [List.drop_length, show objsX qq false dep c' [] = .ok ([], c', 0) from by rw [objsX_eq, if_neg (by simp), if_neg (by simp), if_pos (by simp)]] at hr2
      have HR2 := Lib.hid (hr2.trans (show _ = Except.ok (done, c', L.length) by simp [addX]))
      clear hr2
      go_wp2
      refine bodyPost_ret (v := .tuple #[.slice A n cc, .int .i64 (L.length : Int), .int .i64 (c' : Int), .int .i64 0]) ?_ rfl ⟨bw, .inr ⟨done, c', L.length, A, n, cc, HR2.out, rfl, objs_fin HN.out hd0 ow nc⟩⟩
      simp [results, Tryz.results149, go_sem]
end Go.Proofs.YthbpdhanljpigaaGreatDoor
