/- Parts Tr Ts Tt Tu Tz of the proof. -/
import Derived.Test.YteilglpdmfiinaaDoorPkd
import Derived.BigQuiet
import Derived.Laws.AppendOwn
import Derived.Lib.SliceRun
import Derived.Deep.LoopGhost
import Derived.Lib.LazyBuf
import Derived.Test.YteilglpdmfiinaaDoorWx
namespace Go.Proofs.YteilglpdmfiinaaDoor
open Go.RowKit
set_option linter.unusedVariables false
set_option maxRecDepth 100000

/-- The reader's block: the bytes, where it stands, strict, the count. -/
def RAt (W : World) (g : Nat) (bs : Value) (at_ : Int) (cnt : Int) : Prop := W.heap[g]? = some (.cells #[bs, .int .i64 at_, .bool true, .int .i64 cnt] 122 (0, 0))
theorem RAt.cells {W : World} {g : Nat} {bs : Value} {a k : Int} (h : RAt W g bs a k) : W.cell? ⟨g, 0, none⟩ = some bs ∧ W.cell? ⟨g, 1, none⟩ = some (.int .i64 a) ∧ W.cell? ⟨g, 2, none⟩ = some (.bool true) ∧ W.cell? ⟨g, 3, none⟩ = some (.int .i64 k) ∧ W.frozen? ⟨g, 1, none⟩ = false ∧ W.frozen? ⟨g, 3, none⟩ = false := by
  refine ⟨?_, ?_, ?_, ?_, ?_, ?_⟩
  · rw [cell_of_row W g 0 _ _ _ h]; rfl
  · rw [cell_of_row W g 1 _ _ _ h]; rfl
  · rw [cell_of_row W g 2 _ _ _ h]; rfl
  · rw [cell_of_row W g 3 _ _ _ h]; rfl
  · unfold RAt at h; simp [World.frozen?, h]
  · unfold RAt at h; simp [World.frozen?, h]
theorem RAt.set1 {W : World} {g : Nat} {bs : Value} {a k : Int} (h : RAt W g bs a k) (a' : Int) : RAt (W.setCell ⟨g, 1, none⟩ (.int .i64 a')) g bs a' k := by
  unfold RAt at h ⊢
  simp only [World.setCell, Array.getElem?_modify, if_true, h, Option.map_some]
  rfl
theorem RAt.set3 {W : World} {g : Nat} {bs : Value} {a k : Int} (h : RAt W g bs a k) (k' : Int) : RAt (W.setCell ⟨g, 3, none⟩ (.int .i64 k')) g bs a k' := by
  unfold RAt at h ⊢
  simp only [World.setCell, Array.getElem?_modify, if_true, h, Option.map_some]
  rfl
theorem RAt.ext {W W' : World} {g : Nat} {bs : Value} {a k : Int} (h : RAt W g bs a k) (b : Ext W W') : RAt W' g bs a k := (b.block g (block_lt h)).trans h
theorem RAt.lt {W : World} {g : Nat} {bs : Value} {a k : Int} (h : RAt W g bs a k) : g < W.heap.size := block_lt h
abbrev Gb (g : Nat) (W W' : World) : Prop := W.grownBy W' (some g)
theorem Gb.refl (g : Nat) (W : World) : Gb g W W := World.grownBy.refl _ _
theorem Gb.tr {g : Nat} {a b c : World} (h : Gb g a b) (k : Gb g b c) : Gb g a c := World.grownBy.trans h k
theorem Gb.set (g i : Nat) (W : World) (v : Value) : Gb g W (W.setCell ⟨g, i, none⟩ v) := ⟨rfl, rfl, rfl, by simp, fun k hk hne => by
  have : k ≠ g := fun e => hne (by rw [e])
  simp [World.setCell, Array.getElem?_modify, Ne.symm this]⟩
theorem Gb.of (g : Nat) {W W' : World} (h : Ext W W') : Gb g W W' := ⟨h.os, h.tape, h.output, h.size, fun i hi _ => h.block i hi⟩
theorem Gb.below {w0 W W' : World} {g : Nat} (h : Below w0.heap.size w0 W) (k : Gb g W W') (hg : w0.heap.size ≤ g) : Below w0.heap.size w0 W' := h.grown k h.size (fun r hr => by obtain rfl := Option.some.inj hr; exact hg)
theorem byteI_win {L : List UInt8} {e a i : Nat} (h : a + i < e) : byteI ((L.take e).drop a) i = byteI L (a + i) := by
  unfold byteI
  simp only [List.getD_eq_getElem?_getD, List.getElem?_drop, List.getElem?_take, if_pos h]
theorem win_len {L : List UInt8} {e a : Nat} (h : e ≤ L.length) : ((L.take e).drop a).length = e - a := by rw [List.length_drop, List.length_take, Nat.min_eq_left h]
theorem tagP_win {L : List UInt8} {e a : Nat} (h : e ≤ L.length) : tagP ((L.take e).drop a) =
    if e ≤ a then none else if longT (byteI L a) then (if e ≤ a + 1 then none else if validT (256 * byteI L a + byteI L (a + 1)) then some (256 * byteI L a + byteI L (a + 1), 2) else none)
    else if validT (byteI L a) then some (byteI L a, 1) else none := by
  unfold tagP
  rw [win_len h]
  by_cases h1 : e ≤ a
  · rw [if_pos (by omega), if_pos h1]
  · rw [if_neg (by omega), if_neg h1, byteI_win (i := 0) (by omega), Nat.add_zero]
    by_cases h2 : e ≤ a + 1
    · rw [if_pos (show e - a < 2 by omega), if_pos h2]
    · rw [if_neg (show ¬ e - a < 2 by omega), if_neg h2, byteI_win (i := 1) (by omega), Int.mul_comm]
/-- What tag returns. -/
def TagR (W : World) (g : Nat) (bs : Value) (a : Nat) (cnt : Int) (r : Option (Int × Nat)) (e : Ending) (W' : World) : Prop := Gb g W W' ∧
  ((r = none ∧ ∃ x k : Int, k ≠ 0 ∧ e = .returned (.tuple #[.int .i64 x, .int .i64 k])) ∨
   (∃ t k, r = some (t, k) ∧ e = .returned (.tuple #[.int .i64 t, .int .i64 0]) ∧ RAt W' g bs ((a + k : Nat) : Int) cnt))
theorem ifb_false {α : Type} {b : Bool} {x y : α} (h : b = false) : (if b = true then x else y) = y := if_neg (by rw [h]; decide)
theorem ifb_true {α : Type} {b : Bool} {x y : α} (h : b = true) : (if b = true then x else y) = x := if_pos h
theorem Gb.step1 {g : Nat} {W W' : World} (h : Ext W W') (v : Value) : Gb g W (W'.setCell ⟨g, 1, none⟩ v) := (Gb.of g h).tr (Gb.set g 1 W' v)
theorem RAt.step1 {W W' : World} {g : Nat} {bs : Value} {a k : Int} (h : RAt W g bs a k) (b : Ext W W') (a' : Int) : RAt (W'.setCell ⟨g, 1, none⟩ (.int .i64 a')) g bs a' k := (h.ext b).set1 a'
theorem cast_two {W : World} {g : Nat} {bs : Value} {a k : Int} (h : RAt W g bs (a + 1 + 1) k) : RAt W g bs (a + ((2 : Nat) : Int)) k := by
  have e : a + 1 + 1 = a + ((2 : Nat) : Int) := by omega
  rw [← e]
  exact h
theorem tagR_false {W W' : World} {g a : Nat} {bs : Value} {cnt x z : Int} {r : Option (Int × Nat)} (k : Int) (hk : k ≠ 0) (hr : r = none) (h : Gb g W W') (h2 : RAt W' g bs z cnt) : TagR W g bs a cnt r (.returned (.tuple #[.int .i64 x, .int .i64 k])) W' := ⟨h, .inl ⟨hr, x, k, hk, rfl⟩⟩
theorem tagR_true {W W' : World} {g a : Nat} {bs : Value} {cnt t : Int} {n : Nat} {r : Option (Int × Nat)} (k : Int) (hk : k ≠ 0) (hr : r = some (t, n)) (h : Gb g W W') (h2 : RAt W' g bs ((a : Int) + (n : Int)) cnt) : TagR W g bs a cnt r (.returned (.tuple #[.int .i64 t, .int .i64 0])) W' := ⟨h, .inr ⟨t, n, hr, rfl, by rw [Int.natCast_add]; exact h2⟩⟩
set_option maxHeartbeats 2000000 in
theorem rtag_any {w0 W : World} {bs : Value} {L : List UInt8} {a e : Nat} {cnt : Int} (hb : Rd w0 bs (bvs L)) (bel : Below w0.heap.size w0 W) (hr : RAt W w0.heap.size bs (a : Int) cnt) (he : e ≤ L.length) (hl : L.length ≤ 4096) :
    Calls Tryd.prog 150 #[.pointer (some ⟨w0.heap.size, 0, none⟩), .int .i64 (e : Int)] W (TagR W w0.heap.size bs a cnt (tagP ((L.take e).drop a))) := by
  have HT := Lib.hid (tagP_win (a := a) he)
  obtain ⟨A, n, c, rfl, hn, hnc, hcm, hA⟩ := hb.bytes
  subst hn
  unfold maxLen at hcm
  obtain ⟨c0, c1, c2, c3, f1, f3⟩ := hr.cells
  have hgl := hr.lt
  have HR := Lib.hid hr
  clear hr c2 c3 f3 hb
  by_cases h1 : e ≤ a
  · have HN := Lib.hid (HT.out.trans (if_pos h1))
    have h1' : (e : Int) ≤ (a : Int) := by omega
    clear HT hA
    go_enter Tryd.func150, Tryd.ntmps150
    go_wp2
    go_ret2
    exact ⟨Gb.refl _ _, .inl ⟨HN.out, 0, 6, by decide, rfl⟩⟩
  · have HT1 := Lib.hid (HT.out.trans (if_neg h1))
    clear HT
    obtain ⟨b, o, rfl, hbl, hcell⟩ := hA (by omega)
    have x0 := (bel.cell (p := ⟨b, o + a, none⟩) hbl).trans (hcell a (by omega))
    have hne : b ≠ w0.heap.size := by omega
    have hne' : w0.heap.size ≠ b := by omega
    have p0 := byteI_lo L a
    have p1 := byteI_hi L a
    have ha : a < L.length := by omega
    have wi1 : IntKind.i64.wrap ((a : Int)) = (a : Int) := IntWalk.i64_in _ (by omega)
    have zi1 : (0 : Int) ≤ (a : Int) := by omega
    have li1 : (a : Int) < (L.length : Int) := by omega
    have ti1 : ((a : Int)).toNat = a := by omega
    have wa : IntKind.i64.wrap ((a : Int) + 1) = (a : Int) + 1 := IntWalk.i64_in _ (by omega)
    have HL := fun w => long_any (byteI L a) w p0 (by omega)
    have hae : (a : Int) < (e : Int) := by omega
    cases hlg : longT (byteI L a) with
    | false =>
      rw [hlg] at HL HT1
      have HT2 := Lib.hid (HT1.out.trans (if_neg (by decide)))
      have HLL := Lib.hid HL
      have HV := fun w => valid_any (byteI L a) w p0 (by omega)
      clear hlg HT1 HL hA
      cases hv : validT (byteI L a) with
      | false =>
        rw [hv] at HV
        have HVV := Lib.hid HV
        have HN := Lib.hid (HT2.out.trans (ifb_false hv))
        clear hv HV HT2
        go_enter Tryd.func150, Tryd.ntmps150
        go_wp2_with (go_quiet (fail))
        refine (HLL.out _).mono ?_
        rintro e' w' ⟨rfl, rfl⟩
        go_wp2_with fail
        refine (HVV.out _).mono ?_
        rintro e' w' ⟨rfl, rfl⟩
        go_wp2_with fail
        go_ret2
        exact tagR_false 4 (by decide) HN.out (Gb.step1 (Ext.drewN_ _ _) _) (HR.out.step1 (Ext.drewN_ _ _) _)
      | true =>
        rw [hv] at HV
        have HVV := Lib.hid HV
        have HN := Lib.hid (HT2.out.trans (ifb_true hv))
        clear hv HV HT2
        go_enter Tryd.func150, Tryd.ntmps150
        go_wp2_with (go_quiet (fail))
        refine (HLL.out _).mono ?_
        rintro e' w' ⟨rfl, rfl⟩
        go_wp2_with fail
        refine (HVV.out _).mono ?_
        rintro e' w' ⟨rfl, rfl⟩
        go_wp2_with fail
        go_ret2
        exact tagR_true 4 (by decide) HN.out (Gb.step1 (Ext.drewN_ _ _) _) (HR.out.step1 (Ext.drewN_ _ _) _)
    | true =>
      rw [hlg] at HL HT1
      have HT2 := Lib.hid (HT1.out.trans (if_pos rfl))
      have HLL := Lib.hid HL
      clear hlg HT1 HL
      by_cases h2 : e ≤ a + 1
      · have HN := Lib.hid (HT2.out.trans (if_pos h2))
        have h2' : (e : Int) ≤ (a : Int) + 1 := by omega
        clear HT2 hA
        go_enter Tryd.func150, Tryd.ntmps150
        go_wp2_with (go_quiet (fail))
        refine (HLL.out _).mono ?_
        rintro e' w' ⟨rfl, rfl⟩
        go_wp2_with fail
        go_ret2
        exact tagR_false 6 (by decide) HN.out (Gb.step1 (Ext.drewN_ _ _) _) (HR.out.step1 (Ext.drewN_ _ _) _)
      · have HT3 := Lib.hid (HT2.out.trans (if_neg h2))
        clear HT2
        have HX1 := Lib.hid (hcell (a + 1) (by omega))
        have r0 := byteI_lo L (a + 1)
        have r1 := byteI_hi L (a + 1)
        have HO := Lib.hid (or_low p0 (by omega) r0 r1)
        have hsum0 : 0 ≤ 256 * byteI L a + byteI L (a + 1) := by omega
        have hsum1 : 256 * byteI L a + byteI L (a + 1) < 65536 := by omega
        have HV := fun w => valid_any (256 * byteI L a + byteI L (a + 1)) w hsum0 hsum1
        clear hsum0 hsum1
        have hae2 : (a : Int) + 1 < (e : Int) := by omega
        have HS1 := Lib.hid (fun nq v => (HR.out.step1 (Ext.drewN_ W nq) v))
        cases hv : validT (256 * byteI L a + byteI L (a + 1)) with
        | false =>
          rw [hv] at HV
          have HVV := Lib.hid HV
          have HN := Lib.hid (HT3.out.trans (ifb_false hv))
          clear hv HV HT3
          go_enter Tryd.func150, Tryd.ntmps150
          go_wp2_with (go_quiet (fail))
          refine (HLL.out _).mono ?_
          rintro e' w' ⟨rfl, rfl⟩
          obtain ⟨W1, hW1⟩ : ∃ W1, W1 = (W.drewN nq).setCell ⟨w0.heap.size, 1, none⟩ (.int .i64 ((a : Int) + 1)) := ⟨_, rfl⟩
          rw [← hW1]
          have R1 : RAt W1 w0.heap.size (.slice (some ⟨b, o, none⟩) L.length c) ((a : Int) + 1) cnt := by rw [hW1]; exact HS1.out _ _
          have g1 : Gb w0.heap.size W W1 := by rw [hW1]; exact Gb.step1 (Ext.drewN_ _ _) _
          have bel1 := Gb.below bel g1 (Nat.le_refl _)
          clear hW1 c0 c1 f1 x0 HS1 wa zi1 li1 ti1
          obtain ⟨c0, c1, c2, c3, f1, f3⟩ := R1.cells
          have x1 := (bel1.cell (p := ⟨b, o + (a + 1), none⟩) hbl).trans HX1.out
          have HO' := HO.out
          obtain ⟨a1, ha1⟩ : ∃ a1 : Nat, a1 = a + 1 := ⟨_, rfl⟩
          have e1 : (a : Int) + 1 = (a1 : Int) := by omega
          have HE1 := Lib.hid e1
          rw [← ha1] at x1 HO' HVV r0 r1
          try rw [← ha1] at HN
          rw [e1] at c1 ⊢
          have HR1 := Lib.hid R1
          have ha1l : a1 < L.length := by omega
          have hae3 : (a1 : Int) < (e : Int) := by omega
          have wi2 : IntKind.i64.wrap ((a1 : Int)) = (a1 : Int) := IntWalk.i64_in _ (by omega)
          have zi2 : (0 : Int) ≤ (a1 : Int) := by omega
          have li2 : (a1 : Int) < (L.length : Int) := by omega
          have ti2 : ((a1 : Int)).toNat = a1 := by omega
          have wb : IntKind.i64.wrap ((a1 : Int) + 1) = (a1 : Int) + 1 := IntWalk.i64_in _ (by omega)
          clear R1 c2 c3 f3 e1 ha1 hae2 hA hcell HLL HX1 h2 h1 hae wi1 HO hne hne'
          go_wp2_with (go_quiet (fail))
          refine (HVV.out _).mono ?_
          rintro e' w' ⟨rfl, rfl⟩
          go_wp2_with fail
          go_ret2
          exact tagR_false 4 (by decide) HN.out (g1.tr (Gb.step1 (Ext.drewN_ _ _) _)) (cast_two (by rw [HE1.out]; exact HR1.out.step1 (Ext.drewN_ _ _) _))
        | true =>
          rw [hv] at HV
          have HVV := Lib.hid HV
          have HN := Lib.hid (HT3.out.trans (ifb_true hv))
          clear hv HV HT3
          go_enter Tryd.func150, Tryd.ntmps150
          go_wp2_with (go_quiet (fail))
          refine (HLL.out _).mono ?_
          rintro e' w' ⟨rfl, rfl⟩
          obtain ⟨W1, hW1⟩ : ∃ W1, W1 = (W.drewN nq).setCell ⟨w0.heap.size, 1, none⟩ (.int .i64 ((a : Int) + 1)) := ⟨_, rfl⟩
          rw [← hW1]
          have R1 : RAt W1 w0.heap.size (.slice (some ⟨b, o, none⟩) L.length c) ((a : Int) + 1) cnt := by rw [hW1]; exact HS1.out _ _
          have g1 : Gb w0.heap.size W W1 := by rw [hW1]; exact Gb.step1 (Ext.drewN_ _ _) _
          have bel1 := Gb.below bel g1 (Nat.le_refl _)
          clear hW1 c0 c1 f1 x0 HS1 wa zi1 li1 ti1
          obtain ⟨c0, c1, c2, c3, f1, f3⟩ := R1.cells
          have x1 := (bel1.cell (p := ⟨b, o + (a + 1), none⟩) hbl).trans HX1.out
          have HO' := HO.out
          obtain ⟨a1, ha1⟩ : ∃ a1 : Nat, a1 = a + 1 := ⟨_, rfl⟩
          have e1 : (a : Int) + 1 = (a1 : Int) := by omega
          have HE1 := Lib.hid e1
          rw [← ha1] at x1 HO' HVV r0 r1
          try rw [← ha1] at HN
          rw [e1] at c1 ⊢
          have HR1 := Lib.hid R1
          have ha1l : a1 < L.length := by omega
          have hae3 : (a1 : Int) < (e : Int) := by omega
          have wi3 : IntKind.i64.wrap ((a1 : Int)) = (a1 : Int) := IntWalk.i64_in _ (by omega)
          have zi3 : (0 : Int) ≤ (a1 : Int) := by omega
          have li3 : (a1 : Int) < (L.length : Int) := by omega
          have ti3 : ((a1 : Int)).toNat = a1 := by omega
          have wb : IntKind.i64.wrap ((a1 : Int) + 1) = (a1 : Int) + 1 := IntWalk.i64_in _ (by omega)
          clear R1 c2 c3 f3 e1 ha1 hae2 hA hcell HLL HX1 h2 h1 hae wi1 HO hne hne'
          go_wp2_with (go_quiet (fail))
          refine (HVV.out _).mono ?_
          rintro e' w' ⟨rfl, rfl⟩
          go_wp2_with fail
          go_ret2
          exact tagR_true 4 (by decide) HN.out (g1.tr (Gb.step1 (Ext.drewN_ _ _) _)) (cast_two (by rw [HE1.out]; exact HR1.out.step1 (Ext.drewN_ _ _) _))
theorem lenP_win {L : List UInt8} {e a : Nat} (h : e ≤ L.length) : lenP ((L.take e).drop a) =
    if e ≤ a then none else if byteI L a < 128 then some ((byteI L a).toNat, 1) else if 132 < byteI L a ∨ byteI L a = 128 then none else
    if e < a + 1 + (byteI L a - 128).toNat then none else
    if num ((L.drop (a + 1)).take (byteI L a - 128).toNat) < 128 ∨ num ((L.drop (a + 1)).take (byteI L a - 128).toNat) / 256 ^ ((byteI L a - 128).toNat - 1) = 0 then none else
    some ((num ((L.drop (a + 1)).take (byteI L a - 128).toNat)).toNat, 1 + (byteI L a - 128).toNat) := by
  unfold lenP
  rw [win_len h]
  by_cases h1 : e ≤ a
  · rw [if_pos (by omega), if_pos h1]
  · rw [if_neg (by omega), if_neg h1, byteI_win (i := 0) (by omega), Nat.add_zero]
    by_cases h2 : byteI L a < 128
    · rw [if_pos h2, if_pos h2]
    · rw [if_neg h2, if_neg h2]
      by_cases h3 : 132 < byteI L a ∨ byteI L a = 128
      · rw [if_pos h3, if_pos h3]
      · rw [if_neg h3, if_neg h3]
        by_cases h4 : e < a + 1 + (byteI L a - 128).toNat
        · rw [if_pos (by omega), if_pos h4]
        · rw [if_neg (by omega), if_neg h4]
          have e1 : (((L.take e).drop a).drop 1).take (byteI L a - 128).toNat = (L.drop (a + 1)).take (byteI L a - 128).toNat := by
            rw [List.drop_drop, List.drop_take, List.take_take, Nat.min_eq_left (by omega)]
          rw [e1]
/-- What length returns. -/
def LnR (W : World) (g : Nat) (bs : Value) (a : Nat) (cnt : Int) (r : Option (Nat × Nat)) (e : Ending) (W' : World) : Prop := Gb g W W' ∧
  ((r = none ∧ ∃ x k : Int, k ≠ 0 ∧ e = .returned (.tuple #[.int .i64 x, .int .i64 k])) ∨
   (∃ t k : Nat, r = some (t, k) ∧ e = .returned (.tuple #[.int .i64 (t : Int), .int .i64 0]) ∧ RAt W' g bs ((a + k : Nat) : Int) cnt))
theorem lnR_no {W W' : World} {g a : Nat} {bs : Value} {cnt x : Int} {r : Option (Nat × Nat)} (k : Int) (hk : k ≠ 0) (hr : r = none) (h : Gb g W W') : LnR W g bs a cnt r (.returned (.tuple #[.int .i64 x, .int .i64 k])) W' := ⟨h, .inl ⟨hr, x, k, hk, rfl⟩⟩
theorem lnR_yes {W W' : World} {g a : Nat} {bs : Value} {cnt z : Int} {t n : Nat} {r : Option (Nat × Nat)} (hr : r = some (t, n)) (hz : z = (t : Int)) (h : Gb g W W') (h2 : RAt W' g bs ((a + n : Nat) : Int) cnt) : LnR W g bs a cnt r (.returned (.tuple #[.int .i64 z, .int .i64 0])) W' := ⟨h, .inr ⟨t, n, hr, by rw [hz], h2⟩⟩
set_option maxHeartbeats 2000000 in
/-- No loop is reached. -/
theorem rlength_short {w0 W : World} {bs : Value} {L : List UInt8} {a e : Nat} {cnt : Int} (hb : Rd w0 bs (bvs L)) (bel : Below w0.heap.size w0 W) (hr : RAt W w0.heap.size bs (a : Int) cnt) (he : e ≤ L.length) (hl : L.length ≤ 4096)
    (h : e ≤ a ∨ byteI L a < 128 ∨ 132 < byteI L a ∨ byteI L a = 128 ∨ e < a + 1 + (byteI L a - 128).toNat) :
    Calls Tryd.prog 151 #[.pointer (some ⟨w0.heap.size, 0, none⟩), .int .i64 (e : Int), .bool false] W (LnR W w0.heap.size bs a cnt (lenP ((L.take e).drop a))) := by
  have HT := Lib.hid (lenP_win (a := a) he)
  obtain ⟨A, n, c, rfl, hn, hnc, hcm, hA⟩ := hb.bytes
  subst hn
  unfold maxLen at hcm
  obtain ⟨c0, c1, c2, c3, f1, f3⟩ := hr.cells
  have hgl := hr.lt
  have HR := Lib.hid hr
  clear hr c2 c3 f3 hb
  have HH := Lib.hid h
  clear h
  by_cases h1 : e ≤ a
  · have HN := Lib.hid (HT.out.trans (if_pos h1))
    have h1' : (e : Int) ≤ (a : Int) := by omega
    clear HT hA
    go_enter Tryd.func151, Tryd.ntmps151
    go_wp2
    go_ret2
    exact lnR_no 6 (by decide) HN.out (Gb.refl _ _)
  · have HT1 := Lib.hid (HT.out.trans (if_neg h1))
    clear HT
    obtain ⟨b, o, rfl, hbl, hcell⟩ := hA (by omega)
    have x0 := (bel.cell (p := ⟨b, o + a, none⟩) hbl).trans (hcell a (by omega))
    have hne : b ≠ w0.heap.size := by omega
    have hne' : w0.heap.size ≠ b := by omega
    have p0 := byteI_lo L a
    have p1 := byteI_hi L a
    have ha : a < L.length := by omega
    have wi4 : IntKind.i64.wrap ((a : Int)) = (a : Int) := IntWalk.i64_in _ (by omega)
    have zi4 : (0 : Int) ≤ (a : Int) := by omega
    have li4 : (a : Int) < (L.length : Int) := by omega
    have ti4 : ((a : Int)).toNat = a := by omega
    have wa : IntKind.i64.wrap ((a : Int) + 1) = (a : Int) + 1 := IntWalk.i64_in _ (by omega)
    have hae : (a : Int) < (e : Int) := by omega
    clear hcell hA
    by_cases h2 : byteI L a < 128
    · have HN := Lib.hid (HT1.out.trans (if_pos h2))
      clear HT1
      go_enter Tryd.func151, Tryd.ntmps151
      go_wp2_with (go_quiet (fail))
      go_ret2
      exact lnR_yes HN.out (by omega) (Gb.step1 (Ext.drewN_ _ _) _) (HR.out.step1 (Ext.drewN_ _ _) _)
    · have HT2 := Lib.hid (HT1.out.trans (if_neg h2))
      clear HT1
      by_cases h3 : 132 < byteI L a
      · have HN := Lib.hid (HT2.out.trans (if_pos (.inl h3)))
        clear HT2
        go_enter Tryd.func151, Tryd.ntmps151
        go_wp2_with (go_quiet (fail))
        go_ret2
        exact lnR_no 5 (by decide) HN.out (Gb.step1 (Ext.drewN_ _ _) _)
      · by_cases h4 : byteI L a = 128
        · have HN := Lib.hid (HT2.out.trans (if_pos (.inr h4)))
          clear HT2 HH
          rw [h4] at x0
          clear h4 h2 h3 p0 p1
          go_enter Tryd.func151, Tryd.ntmps151
          go_wp2_with (go_quiet (fail))
          go_ret2
          exact lnR_no 5 (by decide) HN.out (Gb.step1 (Ext.drewN_ _ _) _)
        · have hf : byteI L a = 129 ∨ byteI L a = 130 ∨ byteI L a = 131 ∨ byteI L a = 132 := by omega
          have HN := HT2.out.trans (if_neg (by omega))
          have h5 : e < a + 1 + (byteI L a - 128).toNat := by have := HH.out; omega
          have HN := Lib.hid (HN.trans (if_pos h5))
          clear HT2 HH h4 h2 h3 p0 p1
          rcases hf with hf | hf | hf | hf
          · rw [hf] at x0 h5
            clear hf
            have kk : bits .and .i64 129 15 = 129 - 128 := by decide
            have h5' : (e : Int) - ((a : Int) + 1) < 129 - 128 := by omega
            have wd : IntKind.i64.wrap ((e : Int) - ((a : Int) + 1)) = (e : Int) - ((a : Int) + 1) := IntWalk.i64_in _ (by omega)
            clear h5
            go_enter Tryd.func151, Tryd.ntmps151
            go_wp2_with (go_quiet (fail))
            go_ret2
            exact lnR_no 6 (by decide) HN.out (Gb.step1 (Ext.drewN_ _ _) _)
          · rw [hf] at x0 h5
            clear hf
            have kk : bits .and .i64 130 15 = 130 - 128 := by decide
            have h5' : (e : Int) - ((a : Int) + 1) < 130 - 128 := by omega
            have wd : IntKind.i64.wrap ((e : Int) - ((a : Int) + 1)) = (e : Int) - ((a : Int) + 1) := IntWalk.i64_in _ (by omega)
            clear h5
            go_enter Tryd.func151, Tryd.ntmps151
            go_wp2_with (go_quiet (fail))
            go_ret2
            exact lnR_no 6 (by decide) HN.out (Gb.step1 (Ext.drewN_ _ _) _)
          · rw [hf] at x0 h5
            clear hf
            have kk : bits .and .i64 131 15 = 131 - 128 := by decide
            have h5' : (e : Int) - ((a : Int) + 1) < 131 - 128 := by omega
            have wd : IntKind.i64.wrap ((e : Int) - ((a : Int) + 1)) = (e : Int) - ((a : Int) + 1) := IntWalk.i64_in _ (by omega)
            clear h5
            go_enter Tryd.func151, Tryd.ntmps151
            go_wp2_with (go_quiet (fail))
            go_ret2
            exact lnR_no 6 (by decide) HN.out (Gb.step1 (Ext.drewN_ _ _) _)
          · rw [hf] at x0 h5
            clear hf
            have kk : bits .and .i64 132 15 = 132 - 128 := by decide
            have h5' : (e : Int) - ((a : Int) + 1) < 132 - 128 := by omega
            have wd : IntKind.i64.wrap ((e : Int) - ((a : Int) + 1)) = (e : Int) - ((a : Int) + 1) := IntWalk.i64_in _ (by omega)
            clear h5
            go_enter Tryd.func151, Tryd.ntmps151
            go_wp2_with (go_quiet (fail))
            go_ret2
            exact lnR_no 6 (by decide) HN.out (Gb.step1 (Ext.drewN_ _ _) _)
end Go.Proofs.YteilglpdmfiinaaDoor

namespace Go.Proofs.YteilglpdmfiinaaDoor
open Go.RowKit
set_option linter.unusedVariables false
set_option maxRecDepth 100000

/-- Where the loop stands. -/
def LnL (W : World) (g : Nat) (bs : Value) (L : List UInt8) (a k : Nat) (cnt : Int) (n i : Value) (wr : World) : Prop :=
  ∃ j : Nat, j ≤ k ∧ i = .int .i64 (j : Int) ∧ n = .int .i64 (num ((L.drop (a + 1)).take j)) ∧ Gb g W wr ∧ RAt wr g bs ((a + 1 + j : Nat) : Int) cnt
theorem num_lt4 (l : List UInt8) {j : Nat} (hj : j ≤ 4) : 0 ≤ num (l.take j) ∧ num (l.take j) < 4294967296 := by
  obtain ⟨h1, h2⟩ := num_bd _ (l.take j) rfl
  have h3 : (l.take j).length ≤ 4 := by rw [List.length_take]; omega
  have : ∀ k, k ≤ 4 → (256 : Int) ^ k ≤ 4294967296 := by decide
  have := this _ h3
  omega
set_option maxHeartbeats 4000000 in
theorem rlength_1 {w0 W : World} {bs : Value} {L : List UInt8} {a e : Nat} {cnt : Int} (hb : Rd w0 bs (bvs L)) (bel : Below w0.heap.size w0 W) (hr : RAt W w0.heap.size bs (a : Int) cnt) (he : e ≤ L.length) (hl : L.length ≤ 4096)
    (hf : byteI L a = 128 + 1) (hfit : a + 1 + 1 ≤ e) :
    Calls Tryd.prog 151 #[.pointer (some ⟨w0.heap.size, 0, none⟩), .int .i64 (e : Int), .bool false] W (LnR W w0.heap.size bs a cnt (lenP ((L.take e).drop a))) := by
  have HT := lenP_win (a := a) he
  rw [if_neg (by omega), hf, if_neg (by decide), if_neg (by decide), show ((128 : Int) + 1 - 128).toNat = 1 from rfl, if_neg (by omega)] at HT
  have hld : (L.drop (a + 1)).length ≥ 1 := by rw [List.length_drop]; omega
  have HT' := Lib.hid HT
  clear HT
  obtain ⟨A, n, c, rfl, hn, hnc, hcm, hA⟩ := hb.bytes
  subst hn
  unfold maxLen at hcm
  obtain ⟨c0, c1, c2, c3, f1, f3⟩ := hr.cells
  have hgl := hr.lt
  have HR := Lib.hid hr
  clear hr c2 c3 f3 hb
  obtain ⟨b, o, rfl, hbl, hcell⟩ := hA (by omega)
  have x0 := (bel.cell (p := ⟨b, o + a, none⟩) hbl).trans (hcell a (by omega))
  have hne : b ≠ w0.heap.size := by omega
  have hne' : w0.heap.size ≠ b := by omega
  have ha : a < L.length := by omega
  have wi1 : IntKind.i64.wrap ((a : Int)) = (a : Int) := IntWalk.i64_in _ (by omega)
  have zi1 : (0 : Int) ≤ (a : Int) := by omega
  have li1 : (a : Int) < (L.length : Int) := by omega
  have ti1 : ((a : Int)).toNat = a := by omega
  have wa : IntKind.i64.wrap ((a : Int) + 1) = (a : Int) + 1 := IntWalk.i64_in _ (by omega)
  have hae : (a : Int) < (e : Int) := by omega
  have HC := Lib.hid hcell
  rw [hf] at x0
  have x0 : W.cell? ⟨b, o + a, none⟩ = some (.int .u8 (128 + 1)) := x0
  simp only [Int.reduceAdd] at x0
  clear hcell hA hf
  have kk : bits .and .i64 (128 + 1) 15 = 1 := by decide
  simp only [Int.reduceAdd] at kk
  have h5' : 1 ≤ (e : Int) - ((a : Int) + 1) := by omega
  have wd : IntKind.i64.wrap ((e : Int) - ((a : Int) + 1)) = (e : Int) - ((a : Int) + 1) := IntWalk.i64_in _ (by omega)
  have S0 : ∀ nq, LnL W w0.heap.size (.slice (some ⟨b, o, none⟩) L.length c) L a 1 cnt (.int .i64 0) (.int .i64 0) ((W.drewN nq).setCell ⟨w0.heap.size, 1, none⟩ (.int .i64 ((a : Int) + 1))) := fun nq =>
    ⟨0, by omega, rfl, rfl, Gb.step1 (Ext.drewN_ _ _) _, by rw [show ((a + 1 + 0 : Nat) : Int) = (a : Int) + 1 by omega]; exact HR.out.step1 (Ext.drewN_ _ _) _⟩
  have S0' := Lib.hid S0
  clear S0
  go_enter Tryd.func151, Tryd.ntmps151
  go_wp2_with (go_quiet (fail))
  go_loopw [10, 62] (fun n i wr => LnL W w0.heap.size (.slice (some ⟨b, o, none⟩) L.length c) L a 1 cnt n i wr) (fun _ i _ => 1 - (intOf i).toNat)
  case atStart => exact S0'.out _
  case round =>
    obtain ⟨j, hj, rfl, rfl, gw, rw_⟩ := hrel
    obtain ⟨q3, q4⟩ := num_lt4 (L.drop (a + 1)) (j := j) (by omega)
    by_cases hlt : j < 1
    · have HS := Lib.hid (num_step (l := L.drop (a + 1)) (k := j) (by omega))
      rw [byteI_drop] at HS
      obtain ⟨p, hp⟩ : ∃ p, p = a + 1 + j := ⟨_, rfl⟩
      rw [← hp] at rw_ HS
      have belr := Gb.below bel gw (Nat.le_refl _)
      have x1 := (belr.cell (p := ⟨b, o + p, none⟩) hbl).trans (HC.out p (by omega))
      obtain ⟨c0, c1, c2, c3, f1, f3⟩ := rw_.cells
      have hgl := rw_.lt
      have HR1 := Lib.hid rw_
      have r0 := byteI_lo L p
      have r1 := byteI_hi L p
      have HO := or_low q3 (by omega) r0 r1
      have HP := Lib.hid hp
      have hpl : p < L.length := by omega
      clear rw_ c2 c3 f3 hp
      have wi2 : IntKind.i64.wrap ((p : Int)) = (p : Int) := IntWalk.i64_in _ (by omega)
      have zi2 : (0 : Int) ≤ (p : Int) := by omega
      have li2 : (p : Int) < (L.length : Int) := by omega
      have ti2 : ((p : Int)).toNat = p := by omega
      have wb : IntKind.i64.wrap ((p : Int) + 1) = (p : Int) + 1 := IntWalk.i64_in _ (by omega)
      generalize num ((L.drop (a + 1)).take j) = m at *
      go_wp2_with (go_quiet (fail))
      go_roundw
      case rel => exact ⟨j + 1, by omega, by go_num, by rw [HS.out], gw.tr (Gb.step1 (Ext.drewN_ _ _) _), by rw [show ((a + 1 + (j + 1) : Nat) : Int) = (p : Int) + 1 by have := HP.out; omega]; exact HR1.out.step1 (Ext.drewN_ _ _) _⟩
      case measure => simp [intOf]; omega
    · obtain rfl : j = 1 := by omega
      obtain ⟨c0, c1, c2, c3, f1, f3⟩ := rw_.cells
      have hgl := rw_.lt
      have HR1 := Lib.hid rw_
      clear rw_ c1 f1 f3 c3
      generalize num ((L.drop (a + 1)).take 1) = m at *
      by_cases hm : m < 128
      · have HN := Lib.hid (HT'.out.trans (if_pos (.inl hm)))
        clear HT'
        go_wp2_with (go_quiet (fail))
        go_ret2
        exact lnR_no 5 (by decide) HN.out gw
      · by_cases hz : m / 256 ^ (1 - 1) = 0
        · have HN := Lib.hid (HT'.out.trans (if_pos (.inr hz)))
          have hz' : m / 256 ^ (1 - 1) = 0 := hz
          simp only [Nat.reduceSub, Int.reducePow] at hz'
          clear HT' hz
          first
            | (exfalso; omega)
            | (go_wp2_with (go_quiet (fail))
               go_ret2
               exact lnR_no 5 (by decide) HN.out gw)
        · have HN := Lib.hid (HT'.out.trans (if_neg (not_or.2 ⟨hm, hz⟩)))
          have hz' : ¬ m / 256 ^ (1 - 1) = 0 := hz
          simp only [Nat.reduceSub, Int.reducePow] at hz'
          clear HT' hz
          go_wp2_with (go_quiet (fail))
          go_ret2
          exact lnR_yes HN.out (by omega) gw HR1.out
set_option maxHeartbeats 4000000 in
theorem rlength_2 {w0 W : World} {bs : Value} {L : List UInt8} {a e : Nat} {cnt : Int} (hb : Rd w0 bs (bvs L)) (bel : Below w0.heap.size w0 W) (hr : RAt W w0.heap.size bs (a : Int) cnt) (he : e ≤ L.length) (hl : L.length ≤ 4096)
    (hf : byteI L a = 128 + 2) (hfit : a + 1 + 2 ≤ e) :
    Calls Tryd.prog 151 #[.pointer (some ⟨w0.heap.size, 0, none⟩), .int .i64 (e : Int), .bool false] W (LnR W w0.heap.size bs a cnt (lenP ((L.take e).drop a))) := by
  have HT := lenP_win (a := a) he
  rw [if_neg (by omega), hf, if_neg (by decide), if_neg (by decide), show ((128 : Int) + 2 - 128).toNat = 2 from rfl, if_neg (by omega)] at HT
  have hld : (L.drop (a + 1)).length ≥ 2 := by rw [List.length_drop]; omega
  have HT' := Lib.hid HT
  clear HT
  obtain ⟨A, n, c, rfl, hn, hnc, hcm, hA⟩ := hb.bytes
  subst hn
  unfold maxLen at hcm
  obtain ⟨c0, c1, c2, c3, f1, f3⟩ := hr.cells
  have hgl := hr.lt
  have HR := Lib.hid hr
  clear hr c2 c3 f3 hb
  obtain ⟨b, o, rfl, hbl, hcell⟩ := hA (by omega)
  have x0 := (bel.cell (p := ⟨b, o + a, none⟩) hbl).trans (hcell a (by omega))
  have hne : b ≠ w0.heap.size := by omega
  have hne' : w0.heap.size ≠ b := by omega
  have ha : a < L.length := by omega
  have wi3 : IntKind.i64.wrap ((a : Int)) = (a : Int) := IntWalk.i64_in _ (by omega)
  have zi3 : (0 : Int) ≤ (a : Int) := by omega
  have li3 : (a : Int) < (L.length : Int) := by omega
  have ti3 : ((a : Int)).toNat = a := by omega
  have wa : IntKind.i64.wrap ((a : Int) + 1) = (a : Int) + 1 := IntWalk.i64_in _ (by omega)
  have hae : (a : Int) < (e : Int) := by omega
  have HC := Lib.hid hcell
  rw [hf] at x0
  have x0 : W.cell? ⟨b, o + a, none⟩ = some (.int .u8 (128 + 2)) := x0
  simp only [Int.reduceAdd] at x0
  clear hcell hA hf
  have kk : bits .and .i64 (128 + 2) 15 = 2 := by decide
  simp only [Int.reduceAdd] at kk
  have h5' : 2 ≤ (e : Int) - ((a : Int) + 1) := by omega
  have wd : IntKind.i64.wrap ((e : Int) - ((a : Int) + 1)) = (e : Int) - ((a : Int) + 1) := IntWalk.i64_in _ (by omega)
  have S0 : ∀ nq, LnL W w0.heap.size (.slice (some ⟨b, o, none⟩) L.length c) L a 2 cnt (.int .i64 0) (.int .i64 0) ((W.drewN nq).setCell ⟨w0.heap.size, 1, none⟩ (.int .i64 ((a : Int) + 1))) := fun nq =>
    ⟨0, by omega, rfl, rfl, Gb.step1 (Ext.drewN_ _ _) _, by rw [show ((a + 1 + 0 : Nat) : Int) = (a : Int) + 1 by omega]; exact HR.out.step1 (Ext.drewN_ _ _) _⟩
  have S0' := Lib.hid S0
  clear S0
  go_enter Tryd.func151, Tryd.ntmps151
  go_wp2_with (go_quiet (fail))
  go_loopw [10, 62] (fun n i wr => LnL W w0.heap.size (.slice (some ⟨b, o, none⟩) L.length c) L a 2 cnt n i wr) (fun _ i _ => 2 - (intOf i).toNat)
  case atStart => exact S0'.out _
  case round =>
    obtain ⟨j, hj, rfl, rfl, gw, rw_⟩ := hrel
    obtain ⟨q3, q4⟩ := num_lt4 (L.drop (a + 1)) (j := j) (by omega)
    by_cases hlt : j < 2
    · have HS := Lib.hid (num_step (l := L.drop (a + 1)) (k := j) (by omega))
      rw [byteI_drop] at HS
      obtain ⟨p, hp⟩ : ∃ p, p = a + 1 + j := ⟨_, rfl⟩
      rw [← hp] at rw_ HS
      have belr := Gb.below bel gw (Nat.le_refl _)
      have x1 := (belr.cell (p := ⟨b, o + p, none⟩) hbl).trans (HC.out p (by omega))
      obtain ⟨c0, c1, c2, c3, f1, f3⟩ := rw_.cells
      have hgl := rw_.lt
      have HR1 := Lib.hid rw_
      have r0 := byteI_lo L p
      have r1 := byteI_hi L p
      have HO := or_low q3 (by omega) r0 r1
      have HP := Lib.hid hp
      have hpl : p < L.length := by omega
      clear rw_ c2 c3 f3 hp
      have wi4 : IntKind.i64.wrap ((p : Int)) = (p : Int) := IntWalk.i64_in _ (by omega)
      have zi4 : (0 : Int) ≤ (p : Int) := by omega
      have li4 : (p : Int) < (L.length : Int) := by omega
      have ti4 : ((p : Int)).toNat = p := by omega
      have wb : IntKind.i64.wrap ((p : Int) + 1) = (p : Int) + 1 := IntWalk.i64_in _ (by omega)
      generalize num ((L.drop (a + 1)).take j) = m at *
      go_wp2_with (go_quiet (fail))
      go_roundw
      case rel => exact ⟨j + 1, by omega, by go_num, by rw [HS.out], gw.tr (Gb.step1 (Ext.drewN_ _ _) _), by rw [show ((a + 1 + (j + 1) : Nat) : Int) = (p : Int) + 1 by have := HP.out; omega]; exact HR1.out.step1 (Ext.drewN_ _ _) _⟩
      case measure => simp [intOf]; omega
    · obtain rfl : j = 2 := by omega
      obtain ⟨c0, c1, c2, c3, f1, f3⟩ := rw_.cells
      have hgl := rw_.lt
      have HR1 := Lib.hid rw_
      clear rw_ c1 f1 f3 c3
      generalize num ((L.drop (a + 1)).take 2) = m at *
      by_cases hm : m < 128
      · have HN := Lib.hid (HT'.out.trans (if_pos (.inl hm)))
        clear HT'
        go_wp2_with (go_quiet (fail))
        go_ret2
        exact lnR_no 5 (by decide) HN.out gw
      · by_cases hz : m / 256 ^ (2 - 1) = 0
        · have HN := Lib.hid (HT'.out.trans (if_pos (.inr hz)))
          have hz' : m / 256 ^ (2 - 1) = 0 := hz
          simp only [Nat.reduceSub, Int.reducePow] at hz'
          clear HT' hz
          first
            | (exfalso; omega)
            | (go_wp2_with (go_quiet (fail))
               go_ret2
               exact lnR_no 5 (by decide) HN.out gw)
        · have HN := Lib.hid (HT'.out.trans (if_neg (not_or.2 ⟨hm, hz⟩)))
          have hz' : ¬ m / 256 ^ (2 - 1) = 0 := hz
          simp only [Nat.reduceSub, Int.reducePow] at hz'
          clear HT' hz
          go_wp2_with (go_quiet (fail))
          go_ret2
          exact lnR_yes HN.out (by omega) gw HR1.out
set_option maxHeartbeats 4000000 in
theorem rlength_3 {w0 W : World} {bs : Value} {L : List UInt8} {a e : Nat} {cnt : Int} (hb : Rd w0 bs (bvs L)) (bel : Below w0.heap.size w0 W) (hr : RAt W w0.heap.size bs (a : Int) cnt) (he : e ≤ L.length) (hl : L.length ≤ 4096)
    (hf : byteI L a = 128 + 3) (hfit : a + 1 + 3 ≤ e) :
    Calls Tryd.prog 151 #[.pointer (some ⟨w0.heap.size, 0, none⟩), .int .i64 (e : Int), .bool false] W (LnR W w0.heap.size bs a cnt (lenP ((L.take e).drop a))) := by
  have HT := lenP_win (a := a) he
  rw [if_neg (by omega), hf, if_neg (by decide), if_neg (by decide), show ((128 : Int) + 3 - 128).toNat = 3 from rfl, if_neg (by omega)] at HT
  have hld : (L.drop (a + 1)).length ≥ 3 := by rw [List.length_drop]; omega
  have HT' := Lib.hid HT
  clear HT
  obtain ⟨A, n, c, rfl, hn, hnc, hcm, hA⟩ := hb.bytes
  subst hn
  unfold maxLen at hcm
  obtain ⟨c0, c1, c2, c3, f1, f3⟩ := hr.cells
  have hgl := hr.lt
  have HR := Lib.hid hr
  clear hr c2 c3 f3 hb
  obtain ⟨b, o, rfl, hbl, hcell⟩ := hA (by omega)
  have x0 := (bel.cell (p := ⟨b, o + a, none⟩) hbl).trans (hcell a (by omega))
  have hne : b ≠ w0.heap.size := by omega
  have hne' : w0.heap.size ≠ b := by omega
  have ha : a < L.length := by omega
  have wi5 : IntKind.i64.wrap ((a : Int)) = (a : Int) := IntWalk.i64_in _ (by omega)
  have zi5 : (0 : Int) ≤ (a : Int) := by omega
  have li5 : (a : Int) < (L.length : Int) := by omega
  have ti5 : ((a : Int)).toNat = a := by omega
  have wa : IntKind.i64.wrap ((a : Int) + 1) = (a : Int) + 1 := IntWalk.i64_in _ (by omega)
  have hae : (a : Int) < (e : Int) := by omega
  have HC := Lib.hid hcell
  rw [hf] at x0
  have x0 : W.cell? ⟨b, o + a, none⟩ = some (.int .u8 (128 + 3)) := x0
  simp only [Int.reduceAdd] at x0
  clear hcell hA hf
  have kk : bits .and .i64 (128 + 3) 15 = 3 := by decide
  simp only [Int.reduceAdd] at kk
  have h5' : 3 ≤ (e : Int) - ((a : Int) + 1) := by omega
  have wd : IntKind.i64.wrap ((e : Int) - ((a : Int) + 1)) = (e : Int) - ((a : Int) + 1) := IntWalk.i64_in _ (by omega)
  have S0 : ∀ nq, LnL W w0.heap.size (.slice (some ⟨b, o, none⟩) L.length c) L a 3 cnt (.int .i64 0) (.int .i64 0) ((W.drewN nq).setCell ⟨w0.heap.size, 1, none⟩ (.int .i64 ((a : Int) + 1))) := fun nq =>
    ⟨0, by omega, rfl, rfl, Gb.step1 (Ext.drewN_ _ _) _, by rw [show ((a + 1 + 0 : Nat) : Int) = (a : Int) + 1 by omega]; exact HR.out.step1 (Ext.drewN_ _ _) _⟩
  have S0' := Lib.hid S0
  clear S0
  go_enter Tryd.func151, Tryd.ntmps151
  go_wp2_with (go_quiet (fail))
  go_loopw [10, 62] (fun n i wr => LnL W w0.heap.size (.slice (some ⟨b, o, none⟩) L.length c) L a 3 cnt n i wr) (fun _ i _ => 3 - (intOf i).toNat)
  case atStart => exact S0'.out _
  case round =>
    obtain ⟨j, hj, rfl, rfl, gw, rw_⟩ := hrel
    obtain ⟨q3, q4⟩ := num_lt4 (L.drop (a + 1)) (j := j) (by omega)
    by_cases hlt : j < 3
    · have HS := Lib.hid (num_step (l := L.drop (a + 1)) (k := j) (by omega))
      rw [byteI_drop] at HS
      obtain ⟨p, hp⟩ : ∃ p, p = a + 1 + j := ⟨_, rfl⟩
      rw [← hp] at rw_ HS
      have belr := Gb.below bel gw (Nat.le_refl _)
      have x1 := (belr.cell (p := ⟨b, o + p, none⟩) hbl).trans (HC.out p (by omega))
      obtain ⟨c0, c1, c2, c3, f1, f3⟩ := rw_.cells
      have hgl := rw_.lt
      have HR1 := Lib.hid rw_
      have r0 := byteI_lo L p
      have r1 := byteI_hi L p
      have HO := or_low q3 (by omega) r0 r1
      have HP := Lib.hid hp
      have hpl : p < L.length := by omega
      clear rw_ c2 c3 f3 hp
      have wi6 : IntKind.i64.wrap ((p : Int)) = (p : Int) := IntWalk.i64_in _ (by omega)
      have zi6 : (0 : Int) ≤ (p : Int) := by omega
      have li6 : (p : Int) < (L.length : Int) := by omega
      have ti6 : ((p : Int)).toNat = p := by omega
      have wb : IntKind.i64.wrap ((p : Int) + 1) = (p : Int) + 1 := IntWalk.i64_in _ (by omega)
      generalize num ((L.drop (a + 1)).take j) = m at *
      go_wp2_with (go_quiet (fail))
      go_roundw
      case rel => exact ⟨j + 1, by omega, by go_num, by rw [HS.out], gw.tr (Gb.step1 (Ext.drewN_ _ _) _), by rw [show ((a + 1 + (j + 1) : Nat) : Int) = (p : Int) + 1 by have := HP.out; omega]; exact HR1.out.step1 (Ext.drewN_ _ _) _⟩
      case measure => simp [intOf]; omega
    · obtain rfl : j = 3 := by omega
      obtain ⟨c0, c1, c2, c3, f1, f3⟩ := rw_.cells
      have hgl := rw_.lt
      have HR1 := Lib.hid rw_
      clear rw_ c1 f1 f3 c3
      generalize num ((L.drop (a + 1)).take 3) = m at *
      by_cases hm : m < 128
      · have HN := Lib.hid (HT'.out.trans (if_pos (.inl hm)))
        clear HT'
        go_wp2_with (go_quiet (fail))
        go_ret2
        exact lnR_no 5 (by decide) HN.out gw
      · by_cases hz : m / 256 ^ (3 - 1) = 0
        · have HN := Lib.hid (HT'.out.trans (if_pos (.inr hz)))
          have hz' : m / 256 ^ (3 - 1) = 0 := hz
          simp only [Nat.reduceSub, Int.reducePow] at hz'
          clear HT' hz
          first
            | (exfalso; omega)
            | (go_wp2_with (go_quiet (fail))
               go_ret2
               exact lnR_no 5 (by decide) HN.out gw)
        · have HN := Lib.hid (HT'.out.trans (if_neg (not_or.2 ⟨hm, hz⟩)))
          have hz' : ¬ m / 256 ^ (3 - 1) = 0 := hz
          simp only [Nat.reduceSub, Int.reducePow] at hz'
          clear HT' hz
          go_wp2_with (go_quiet (fail))
          go_ret2
          exact lnR_yes HN.out (by omega) gw HR1.out
set_option maxHeartbeats 4000000 in
theorem rlength_4 {w0 W : World} {bs : Value} {L : List UInt8} {a e : Nat} {cnt : Int} (hb : Rd w0 bs (bvs L)) (bel : Below w0.heap.size w0 W) (hr : RAt W w0.heap.size bs (a : Int) cnt) (he : e ≤ L.length) (hl : L.length ≤ 4096)
    (hf : byteI L a = 128 + 4) (hfit : a + 1 + 4 ≤ e) :
    Calls Tryd.prog 151 #[.pointer (some ⟨w0.heap.size, 0, none⟩), .int .i64 (e : Int), .bool false] W (LnR W w0.heap.size bs a cnt (lenP ((L.take e).drop a))) := by
  have HT := lenP_win (a := a) he
  rw [if_neg (by omega), hf, if_neg (by decide), if_neg (by decide), show ((128 : Int) + 4 - 128).toNat = 4 from rfl, if_neg (by omega)] at HT
  have hld : (L.drop (a + 1)).length ≥ 4 := by rw [List.length_drop]; omega
  have HT' := Lib.hid HT
  clear HT
  obtain ⟨A, n, c, rfl, hn, hnc, hcm, hA⟩ := hb.bytes
  subst hn
  unfold maxLen at hcm
  obtain ⟨c0, c1, c2, c3, f1, f3⟩ := hr.cells
  have hgl := hr.lt
  have HR := Lib.hid hr
  clear hr c2 c3 f3 hb
  obtain ⟨b, o, rfl, hbl, hcell⟩ := hA (by omega)
  have x0 := (bel.cell (p := ⟨b, o + a, none⟩) hbl).trans (hcell a (by omega))
  have hne : b ≠ w0.heap.size := by omega
  have hne' : w0.heap.size ≠ b := by omega
  have ha : a < L.length := by omega
  have wi7 : IntKind.i64.wrap ((a : Int)) = (a : Int) := IntWalk.i64_in _ (by omega)
  have zi7 : (0 : Int) ≤ (a : Int) := by omega
  have li7 : (a : Int) < (L.length : Int) := by omega
  have ti7 : ((a : Int)).toNat = a := by omega
  have wa : IntKind.i64.wrap ((a : Int) + 1) = (a : Int) + 1 := IntWalk.i64_in _ (by omega)
  have hae : (a : Int) < (e : Int) := by omega
  have HC := Lib.hid hcell
  rw [hf] at x0
  have x0 : W.cell? ⟨b, o + a, none⟩ = some (.int .u8 (128 + 4)) := x0
  simp only [Int.reduceAdd] at x0
  clear hcell hA hf
  have kk : bits .and .i64 (128 + 4) 15 = 4 := by decide
  simp only [Int.reduceAdd] at kk
  have h5' : 4 ≤ (e : Int) - ((a : Int) + 1) := by omega
  have wd : IntKind.i64.wrap ((e : Int) - ((a : Int) + 1)) = (e : Int) - ((a : Int) + 1) := IntWalk.i64_in _ (by omega)
  have S0 : ∀ nq, LnL W w0.heap.size (.slice (some ⟨b, o, none⟩) L.length c) L a 4 cnt (.int .i64 0) (.int .i64 0) ((W.drewN nq).setCell ⟨w0.heap.size, 1, none⟩ (.int .i64 ((a : Int) + 1))) := fun nq =>
    ⟨0, by omega, rfl, rfl, Gb.step1 (Ext.drewN_ _ _) _, by rw [show ((a + 1 + 0 : Nat) : Int) = (a : Int) + 1 by omega]; exact HR.out.step1 (Ext.drewN_ _ _) _⟩
  have S0' := Lib.hid S0
  clear S0
  go_enter Tryd.func151, Tryd.ntmps151
  go_wp2_with (go_quiet (fail))
  go_loopw [10, 62] (fun n i wr => LnL W w0.heap.size (.slice (some ⟨b, o, none⟩) L.length c) L a 4 cnt n i wr) (fun _ i _ => 4 - (intOf i).toNat)
  case atStart => exact S0'.out _
  case round =>
    obtain ⟨j, hj, rfl, rfl, gw, rw_⟩ := hrel
    obtain ⟨q3, q4⟩ := num_lt4 (L.drop (a + 1)) (j := j) (by omega)
    by_cases hlt : j < 4
    · have HS := Lib.hid (num_step (l := L.drop (a + 1)) (k := j) (by omega))
      rw [byteI_drop] at HS
      obtain ⟨p, hp⟩ : ∃ p, p = a + 1 + j := ⟨_, rfl⟩
      rw [← hp] at rw_ HS
      have belr := Gb.below bel gw (Nat.le_refl _)
      have x1 := (belr.cell (p := ⟨b, o + p, none⟩) hbl).trans (HC.out p (by omega))
      obtain ⟨c0, c1, c2, c3, f1, f3⟩ := rw_.cells
      have hgl := rw_.lt
      have HR1 := Lib.hid rw_
      have r0 := byteI_lo L p
      have r1 := byteI_hi L p
      have HO := or_low q3 (by omega) r0 r1
      have HP := Lib.hid hp
      have hpl : p < L.length := by omega
      clear rw_ c2 c3 f3 hp
      have wi8 : IntKind.i64.wrap ((p : Int)) = (p : Int) := IntWalk.i64_in _ (by omega)
      have zi8 : (0 : Int) ≤ (p : Int) := by omega
      have li8 : (p : Int) < (L.length : Int) := by omega
      have ti8 : ((p : Int)).toNat = p := by omega
      have wb : IntKind.i64.wrap ((p : Int) + 1) = (p : Int) + 1 := IntWalk.i64_in _ (by omega)
      generalize num ((L.drop (a + 1)).take j) = m at *
      go_wp2_with (go_quiet (fail))
      go_roundw
      case rel => exact ⟨j + 1, by omega, by go_num, by rw [HS.out], gw.tr (Gb.step1 (Ext.drewN_ _ _) _), by rw [show ((a + 1 + (j + 1) : Nat) : Int) = (p : Int) + 1 by have := HP.out; omega]; exact HR1.out.step1 (Ext.drewN_ _ _) _⟩
      case measure => simp [intOf]; omega
    · obtain rfl : j = 4 := by omega
      obtain ⟨c0, c1, c2, c3, f1, f3⟩ := rw_.cells
      have hgl := rw_.lt
      have HR1 := Lib.hid rw_
      clear rw_ c1 f1 f3 c3
      generalize num ((L.drop (a + 1)).take 4) = m at *
      by_cases hm : m < 128
      · have HN := Lib.hid (HT'.out.trans (if_pos (.inl hm)))
        clear HT'
        go_wp2_with (go_quiet (fail))
        go_ret2
        exact lnR_no 5 (by decide) HN.out gw
      · by_cases hz : m / 256 ^ (4 - 1) = 0
        · have HN := Lib.hid (HT'.out.trans (if_pos (.inr hz)))
          have hz' : m / 256 ^ (4 - 1) = 0 := hz
          simp only [Nat.reduceSub, Int.reducePow] at hz'
          clear HT' hz
          first
            | (exfalso; omega)
            | (go_wp2_with (go_quiet (fail))
               go_ret2
               exact lnR_no 5 (by decide) HN.out gw)
        · have HN := Lib.hid (HT'.out.trans (if_neg (not_or.2 ⟨hm, hz⟩)))
          have hz' : ¬ m / 256 ^ (4 - 1) = 0 := hz
          simp only [Nat.reduceSub, Int.reducePow] at hz'
          clear HT' hz
          go_wp2_with (go_quiet (fail))
          go_ret2
          exact lnR_yes HN.out (by omega) gw HR1.out
end Go.Proofs.YteilglpdmfiinaaDoor

namespace Go.Proofs.YteilglpdmfiinaaDoor
open Go.RowKit
set_option linter.unusedVariables false
set_option maxRecDepth 100000

theorem rlength_any {w0 W : World} {bs : Value} {L : List UInt8} {a e : Nat} {cnt : Int} (hb : Rd w0 bs (bvs L)) (bel : Below w0.heap.size w0 W) (hr : RAt W w0.heap.size bs (a : Int) cnt) (he : e ≤ L.length) (hl : L.length ≤ 4096) :
    Calls Tryd.prog 151 #[.pointer (some ⟨w0.heap.size, 0, none⟩), .int .i64 (e : Int), .bool false] W (LnR W w0.heap.size bs a cnt (lenP ((L.take e).drop a))) := by
  by_cases h : e ≤ a ∨ byteI L a < 128 ∨ 132 < byteI L a ∨ byteI L a = 128 ∨ e < a + 1 + (byteI L a - 128).toNat
  · exact rlength_short hb bel hr he hl h
  · have hf : byteI L a = 129 ∨ byteI L a = 130 ∨ byteI L a = 131 ∨ byteI L a = 132 := by omega
    rcases hf with hf | hf | hf | hf
    · exact rlength_1 hb bel hr he hl hf (by omega)
    · exact rlength_2 hb bel hr he hl hf (by omega)
    · exact rlength_3 hb bel hr he hl hf (by omega)
    · exact rlength_4 hb bel hr he hl hf (by omega)
theorem eql_nilB (w : World) (A : Option Addr) (n c : Nat) : (binOp .eql 30 (.slice A n c) (.slice none 0 0)).run Tryd.prog w = .ok (.bool A.isNone) w := Lib.run_eql_slice_nil w _ 5 A n c 0 0 Tryd.underlying30
set_option maxHeartbeats 1000000 in
theorem cloneB_any {a : Value} {l : List UInt8} (w : World) (ha : Rd w a (bvs l)) (hl : l.length ≤ 140737488355328) : Calls Tryd.prog 133 #[a] w (RetB w l) := by
  have ha0 := ha
  obtain ⟨A, n, c, rfl, hn, hnc, hcm, hA⟩ := ha.bytes
  subst hn
  unfold maxLen at hcm
  cases A with
  | none =>
    have h0 : l = [] := by
      by_cases h : 0 < l.length
      · obtain ⟨b, o, e, _⟩ := hA h; cases e
      · exact List.eq_nil_of_length_eq_zero (by omega)
    subst h0
    clear hA ha ha0
    have hq := fun w => eql_nilB w none 0 c
    go_enter Tryd.func133, Tryd.ntmps133
    go_wp2
    go_ret
    exact ⟨_, _, _, rfl, (show _ = _ from rfl), nilB _ _, Below.refl _ _⟩
  | some ad =>
    clear hA ha
    have hq := fun w => eql_nilB w (some ad) l.length c
    have e6 : Ext w (w.alloc (.cells #[] 5)) := (Below.refl _ _).alloc (Nat.le_refl _) _
    go_enter Tryd.func133, Tryd.ntmps133
    go_wp2_with (refine appN (ys := l) (ha0.ext e6) e6 hl e6.size rfl rfl rfl rfl ?_; intro A2 n2 c2 w2 hn2 o2 (b2 : Ext _ _) g2)
    go_ret
    exact ⟨_, _, _, rfl, hn2, o2, b2⟩
/-- What objects returns. -/
def ObjsR (W : World) (g : Nat) (bs : Value) (d e : Nat) (r : Option (List Nd × Nat)) (en : Ending) (W' : World) : Prop := Gb g W W' ∧
  ((r = none ∧ ∃ (A : Option Addr) (n c : Nat) (k : Int), k ≠ 0 ∧ en = .returned (.tuple #[.slice A n c, .int .i64 k])) ∨
   (∃ ts c A n cc, r = some (ts, c) ∧ en = .returned (.tuple #[.slice A n cc, .int .i64 0]) ∧ RAt W' g bs (e : Int) (c : Int) ∧ NdsS (fun b => W.heap.size ≤ b) d W' (.slice A n cc) ts))
def ObjsOk (d : Nat) : Prop := ∀ (w0 W : World) (bs : Value) (L : List UInt8) (a e cnt : Nat), Rd w0 bs (bvs L) → Below w0.heap.size w0 W → RAt W w0.heap.size bs (a : Int) (cnt : Int) → a ≤ e → e ≤ L.length → L.length ≤ 4096 → cnt ≤ 256 →
  Calls Tryd.prog 107 #[.pointer (some ⟨w0.heap.size, 0, none⟩), .int .i64 (e : Int), .int .i64 (9 - (d : Int))] W (ObjsR W w0.heap.size bs d e (objsP (9 - (d : Int)) cnt ((L.take e).drop a)))
/-- What object returns. -/
def ObjR (W : World) (g : Nat) (bs : Value) (d a : Nat) (r : Option (Nd × Nat × Nat)) (en : Ending) (W' : World) : Prop := Gb g W W' ∧
  ((r = none ∧ ∃ (t : Int) (A1 : Option Addr) (n1 c1 : Nat) (A2 : Option Addr) (n2 c2 : Nat) (k : Int), k ≠ 0 ∧ en = .returned (.tuple #[.agg #[.int .i64 t, .slice A1 n1 c1, .slice A2 n2 c2], .int .i64 k])) ∨
   (∃ x c u A1 n1 c1 A2 n2 c2, r = some (x, c, u) ∧ en = .returned (.tuple #[.agg #[.int .i64 x.tag, .slice A1 n1 c1, .slice A2 n2 c2], .int .i64 0]) ∧ RAt W' g bs ((a + u : Nat) : Int) (c : Int) ∧
     RdS (fun b => W.heap.size ≤ b) W' (.slice A1 n1 c1) (bvs x.val) ∧ NdsS (fun b => W.heap.size ≤ b) (d - 1) W' (.slice A2 n2 c2) x.kids))
def ObjOk (d : Nat) : Prop := ∀ (w0 W : World) (bs : Value) (L : List UInt8) (a e cnt : Nat), Rd w0 bs (bvs L) → Below w0.heap.size w0 W → RAt W w0.heap.size bs (a : Int) (cnt : Int) → a ≤ e → e ≤ L.length → L.length ≤ 4096 → cnt ≤ 256 →
  Calls Tryd.prog 132 #[.pointer (some ⟨w0.heap.size, 0, none⟩), .int .i64 (e : Int), .int .i64 (9 - (d : Int))] W (ObjR W w0.heap.size bs d a (objP1 objsP (9 - (d : Int)) cnt ((L.take e).drop a)))
theorem objsP_cnt : ∀ (k : Nat) (l : List UInt8) (dep : Int) (cnt : Nat) (ts : List Nd) (c : Nat), l.length ≤ k → objsP dep cnt l = some (ts, c) → cnt ≤ 256 → c ≤ 256 ∧ ts.length ≤ 256 ∧ cnt + ts.length ≤ c := by
  intro k
  induction k using Nat.strongRecOn with
  | ind k IH =>
    intro l dep cnt ts c hk h hc
    rw [objsP_eq] at h
    split at h
    · simp only [Option.some.injEq, Prod.mk.injEq] at h
      obtain ⟨rfl, rfl⟩ := h
      simp
      omega
    · rename_i h0
      split at h
      · cases h
      · rename_i x c1 u hx
        obtain ⟨u0, u1⟩ := objP1_used hx
        have hc1 : c1 ≤ 256 ∧ cnt + 1 ≤ c1 := by
          unfold objP1 at hx
          split at hx
          · cases hx
          · rename_i t o n ht
            obtain ⟨g1, g2, g3, g4, g5, g6, g7⟩ := headP_bd ht
            split at hx
            · split at hx
              · cases hx
              · rename_i ks c2 hk2
                simp only [Option.some.injEq, Prod.mk.injEq] at hx
                obtain ⟨_, rfl, _⟩ := hx
                have := IH ((l.drop o).take n).length (by rw [List.length_take, List.length_drop]; omega) _ _ _ _ _ (Nat.le_refl _) hk2 (by omega)
                omega
            · simp only [Option.some.injEq, Prod.mk.injEq] at hx
              omega
        split at h
        · cases h
        · rename_i xs c' hxs
          simp only [Option.some.injEq, Prod.mk.injEq] at h
          obtain ⟨rfl, rfl⟩ := h
          have := IH (l.drop u).length (by rw [List.length_drop]; omega) _ _ _ _ _ (Nat.le_refl _) hxs hc1.1
          simp only [List.length_cons]
          omega
theorem objP1_cnt {dep : Int} {cnt : Nat} {l : List UInt8} {x : Nd} {c u : Nat} (h : objP1 objsP dep cnt l = some (x, c, u)) : c ≤ 256 ∧ cnt + 1 ≤ c := by
  unfold objP1 at h
  split at h
  · cases h
  · rename_i t o n ht
    obtain ⟨g1, g2, g3, g4, g5, g6, g7⟩ := headP_bd ht
    split at h
    · split at h
      · cases h
      · rename_i ks c2 hk2
        simp only [Option.some.injEq, Prod.mk.injEq] at h
        obtain ⟨_, rfl, _⟩ := h
        have := objsP_cnt _ _ _ _ _ _ (Nat.le_refl _) hk2 (by omega)
        omega
    · simp only [Option.some.injEq, Prod.mk.injEq] at h
      omega
theorem objP1_dep {rec : Int → Nat → List UInt8 → Option (List Nd × Nat)} {dep : Int} {cnt : Nat} {l : List UInt8} {r : Nd × Nat × Nat} (h : objP1 rec dep cnt l = some r) : dep ≤ 8 := by
  unfold objP1 at h
  split at h
  · cases h
  · rename_i t o n ht
    exact (headP_bd ht).2.2.2.2.2.1
theorem rowOf_ltK {w : World} {B : Nat} {e : TypeId} {k : Nat} {v : Value} {xs : List Value} (h : OwnK w B e k v xs) : ∀ r, rowOf v = some r → r < w.heap.size := by
  obtain ⟨A, n, c, rfl, hn, ⟨rfl, rfl⟩ | ⟨g, cur, rfl, hb, hg, _⟩⟩ := h
  · intro k hk; cases A <;> simp [rowOf] at hk
  · intro k hk
    cases c with
    | zero => simp [rowOf] at hk
    | succ c =>
      have := block_lt hg
      simp [rowOf] at hk
      omega
/-- Where the loop of objects stands. -/
def ObL (W : World) (g : Nat) (bs : Value) (L : List UInt8) (d a e cnt : Nat) (dep : Int) (k : Nat) (out : Value) (wr : World) : Prop :=
  ∃ (p c' : Nat) (A : Option Addr) (n cc : Nat) (xs : List Value) (done : List Nd), out = .slice A n cc ∧ n = done.length ∧ p ≤ e ∧ e - p ≤ k ∧ done.length + cnt ≤ c' ∧ c' ≤ 256 ∧ Gb g W wr ∧ RAt wr g bs (p : Int) (c' : Int) ∧
    OwnK wr W.heap.size 62 3 (.slice A n cc) xs ∧ NdCells (fun b => W.heap.size ≤ b ∧ rowOf (.slice A n cc) ≠ some b) (d - 1) wr xs done ∧ (d = 0 → done = []) ∧
    objsP dep cnt ((L.take e).drop a) = (objsP dep c' ((L.take e).drop p)).map fun r => (done ++ r.1, r.2)
set_option maxHeartbeats 4000000 in
theorem objs_of {d : Nat} (H : ObjOk d) : ObjsOk d := by
  intro w0 W bs L a e cnt hb bel hr hae he hl hc
  have HH := Lib.hid H
  clear H
  obtain ⟨A0, n0, c0, rfl, hn0, hnc0, hcm0, _⟩ := hb.bytes
  subst hn0
  unfold maxLen at hcm0
  have HB := Lib.hid hb
  clear hb
  have hgl := hr.lt
  have R0 : ObL W w0.heap.size (.slice A0 L.length c0) L d a e cnt (9 - (d : Int)) (e - a) (.slice none 0 0) W :=
    ⟨a, cnt, none, 0, 0, [], [], rfl, rfl, hae, Nat.le_refl _, by simp, hc, Gb.refl _ _, hr, OwnK.empty _ _ _ _ _, NdCells.nil _ _ _, fun _ => rfl, by
      cases objsP (9 - (d : Int)) cnt ((L.take e).drop a) <;> rfl⟩
  have R0' := Lib.hid R0
  clear R0 hr
  obtain ⟨r, hr⟩ : ∃ r, objsP (9 - (d : Int)) cnt ((L.take e).drop a) = r := ⟨_, rfl⟩
  rw [hr]
  have HRR := Lib.hid hr
  clear hr
  go_enter Tryd.func107, Tryd.ntmps107
  go_wp2
  go_loopg [8, 9, 10] (e - a) (fun k out _ _ wr => ObL W w0.heap.size (.slice A0 L.length c0) L d a e cnt (9 - (d : Int)) k out wr)
  case atStart => exact R0'.out
  case round =>
    obtain ⟨p, c', A, n, cc, xs, done, rfl, hn, hpe, hk, hdc, hc6, gw, rw_, ow, nc, hd0, hP⟩ := hrel
    obtain ⟨q0, q1, q2, q3, f1, f3⟩ := rw_.cells
    have hglr := rw_.lt
    have HP := Lib.hid (HRR.out.symm.trans hP)
    have HN := Lib.hid hn
    have belr := Gb.below bel gw (Nat.le_refl _)
    clear hP q0 q2 q3 f1 f3 hn
    by_cases hlt : p < e
    · have hlt' : (p : Int) < (e : Int) := by omega
      have hwl := win_len (L := L) (a := p) he
      obtain ⟨r1, hr1⟩ : ∃ r1, objP1 objsP (9 - (d : Int)) c' ((L.take e).drop p) = r1 := ⟨_, rfl⟩
      have hO := HH.out w0 wr _ L p e c' HB.out belr rw_ hpe he hl hc6
      rw [hr1] at hO
      have HO := Lib.hid hO
      have HR1 := Lib.hid hr1
      have HW := Lib.hid hwl
      clear hO hr1 hwl
      go_wp2_with fail
      refine HO.out.mono ?_
      rintro en wx ⟨gx, hx⟩
      have hsz := gx.size
      rcases hx with ⟨rfl, t, A1, n1, c1, A2, n2, c2, k', hk', rfl⟩ | ⟨x, c, u, A1, n1, c1, A2, n2, c2, rfl, rfl, rx, r1, r2⟩
      · have hk2 : (k' != 0) = true := by simpa using hk'
        go_wp2_with fail
        go_ret2
        refine ⟨gw.tr (gx.tr (Gb.of _ ((Below.refl _ _).alloc (Nat.le_refl _) _))), .inl ⟨?_, _, _, _, k', hk', rfl⟩⟩
        have h1 := objsP_none (by rw [HW.out]; omega) HR1.out
        rw [HP.out, h1]
        rfl
      · obtain ⟨u0, u1⟩ := objP1_used HR1.out
        rw [HW.out] at u1
        obtain ⟨k0, k1⟩ := objP1_cnt HR1.out
        have hdep := objP1_dep HR1.out
        have hstep := objsP_some (by rw [HW.out]; omega) HR1.out
        rw [List.drop_drop] at hstep
        have HST := Lib.hid hstep
        clear hstep
        have xy : Ext wx (wx.alloc (.cells #[.int .i64 x.tag, .slice A1 n1 c1, .slice A2 n2 c2] 62)) := (Below.refl _ _).alloc (Nat.le_refl _) _
        have xz : Ext (wx.alloc (.cells #[.int .i64 x.tag, .slice A1 n1 c1, .slice A2 n2 c2] 62)) ((wx.alloc (.cells #[.int .i64 x.tag, .slice A1 n1 c1, .slice A2 n2 c2] 62)).alloc (.cells #[.int .i64 x.tag, .slice A1 n1 c1, .slice A2 n2 c2] 62)) := (Below.refl _ _).alloc (Nat.le_refl _) _
        have gz : Gb w0.heap.size wr ((wx.alloc (.cells #[.int .i64 x.tag, .slice A1 n1 c1, .slice A2 n2 c2] 62)).alloc (.cells #[.int .i64 x.tag, .slice A1 n1 c1, .slice A2 n2 c2] 62)) := gx.tr (Gb.of _ (xy.tr xz))
        have hrow := rowOf_geK ow
        have hrlt := rowOf_ltK ow
        have sW := gw.size
        have ow2 := (ow.grown gz (by
          cases hq : rowOf (.slice A n cc) with
          | none => exact .inl rfl
          | some r => exact .inr (fun h => by have := hrow r hq; injection h with h; omega)))
        have nc2 := nc.map (S' := fun b => W.heap.size ≤ b ∧ rowOf (.slice A n cc) ≠ some b) (w' := (wx.alloc (.cells #[.int .i64 x.tag, .slice A1 n1 c1, .slice A2 n2 c2] 62)).alloc (.cells #[.int .i64 x.tag, .slice A1 n1 c1, .slice A2 n2 c2] 62)) (fun b hb hbl => ⟨hb, gz.block b hbl (fun h => by injection h with h; have := hb.1; omega)⟩)
        have hm : ∀ b, wr.heap.size ≤ b → b < wx.heap.size → (W.heap.size ≤ b ∧ rowOf (.slice A n cc) ≠ some b) ∧ ((wx.alloc (.cells #[.int .i64 x.tag, .slice A1 n1 c1, .slice A2 n2 c2] 62)).alloc (.cells #[.int .i64 x.tag, .slice A1 n1 c1, .slice A2 n2 c2] 62)).heap[b]? = wx.heap[b]? := fun b hb hbl =>
          ⟨⟨by omega, fun h => by have := hrlt b h; omega⟩, (xy.tr xz).block b hbl⟩
        have r1' := r1.map hm
        have r2' := r2.map hm
        have R := RdK.lit (wx.alloc (.cells #[.int .i64 x.tag, .slice A1 n1 c1, .slice A2 n2 c2] 62)) 3 #[.int .i64 x.tag, .slice A1 n1 c1, .slice A2 n2 c2] 62 1 rfl (by unfold maxLen; omega)
        rw [show ((wx.alloc (.cells #[.int .i64 x.tag, .slice A1 n1 c1, .slice A2 n2 c2] 62))).heap.size = wx.heap.size + 1 by simp] at R
        have rz := rx.ext (xy.tr xz)
        have hWz : W.heap.size ≤ ((wx.alloc (.cells #[.int .i64 x.tag, .slice A1 n1 c1, .slice A2 n2 c2] 62)).alloc (.cells #[.int .i64 x.tag, .slice A1 n1 c1, .slice A2 n2 c2] 62)).heap.size := Nat.le_trans sW gz.size
        have HM := Lib.hid hm
        have HRW := Lib.hid hrow
        clear hm r1 r2 nc ow hrlt rx rw_ q1 hrow
        go_wp2_with (first
          | fail
          | (refine appNd (S0 := fun b => W.heap.size ≤ b) (B := W.heap.size) (t := x) ow2 nc2 R r1' r2' (by omega) hWz rfl rfl rfl rfl ?_; intro A8 n8 c8 w8 hn8 o8 nc8 g8 hge))
        have hWS := sW
        have HN8 := hn8.out
        have gx2 : Gb w0.heap.size W w8 := (gw.tr gz).andThen g8 (fun j hj => .inl (hge j hj))
        have hne8 : some w0.heap.size ≠ rowOf (.slice A n cc) := fun h => by have := hge _ h.symm; omega
        have r8 : RAt w8 w0.heap.size (.slice A0 L.length c0) ((p + u : Nat) : Int) (c : Int) := (g8.block _ rz.lt hne8).trans rz
        have hP8 : objsP (9 - (d : Int)) cnt ((L.take e).drop a) = (objsP (9 - (d : Int)) c ((L.take e).drop (p + u))).map fun r => ((done ++ [x]) ++ r.1, r.2) := by
          rw [HRR.out, HP.out, HST.out, Option.map_map]
          congr 1
          funext r
          simp
        go_roundg (e - (p + u))
        case rel => exact ⟨p + u, c, A8, n8, c8, _, done ++ [x], rfl, by rw [HN8]; simp, by omega, Nat.le_refl _, by simp; omega, k0, gx2, r8, o8, nc8, fun h => by omega, hP8⟩
        case measure => omega
    · obtain rfl : p = e := by omega
      have hnil : (L.take p).drop p = [] := List.drop_eq_nil_of_le (by rw [List.length_take]; omega)
      have hr2 := HP.out
      rw [hnil, objsP_nil] at hr2
      simp only [Option.map_some, List.append_nil] at hr2
      have HR2 := Lib.hid hr2
      clear hr2 hnil
      go_wp2
      go_ret2
      refine ⟨gw, .inr ⟨done, c', A, n, cc, HR2.out, rfl, rw_, ?_⟩⟩
      cases d with
      | zero =>
        obtain rfl := hd0 rfl
        have : n = 0 := HN.out
        subst this
        exact ⟨rfl, A, cc, rfl, by
          have := ow.rd
          obtain ⟨A', n', c'', e', _, _, h3, _⟩ := this
          injection e' with _ _ e'
          rw [e']; exact h3⟩
      | succ d => exact NdsS.mk ow nc (fun b h => h.1) (fun b h => h)
end Go.Proofs.YteilglpdmfiinaaDoor

namespace Go.Proofs.YteilglpdmfiinaaDoor
open Go.RowKit
set_option linter.unusedVariables false
set_option maxRecDepth 100000

section
variable {P : Program} {Q : Exit → Act → World → Prop} {w0 : World} {R : Act → World → Prop}
/-- A nil check of a pointer that is none, in a region that draws. -/
theorem wpX_nil {o : Oper} {rest : List Oper} {a : Act} {hs : List (Nat × VPred)} {d : Nat} (ad : Addr) {x : Operand} (hd : o.dst = some d) (hz : Nat.blt d a.tmps.size = true) (ho : o.op = .nilCheck x) (hx : a.eval x = .pointer (some ad)) (hn : noHole o hs = true)
    (hr : wpX P Q w0 R rest (a.put (some d) (.pointer (some ad))) hs) : wpX P Q w0 R (o :: rest) a hs :=
  wpX_call (.pointer (some ad)) hd hz (by unfold notSelect; rw [ho]) hn (fun m K hK => by
    unfold Oper.wp execOp
    simp only [ho, hx, Sem.run_pure, Oper.upon]
    exact hK _ _ (by rw [hd]; rfl) ⟨Below.refl _ _, by rw [hd, eval_put_same (blt_lt hz)]⟩) hr
end
/-- A block of three cells. -/
def C3 (W : World) (b : Nat) (v0 v1 v2 : Value) : Prop := W.heap[b]? = some (.cells #[v0, v1, v2] 62 (0, 0))
theorem C3.cells {W : World} {b : Nat} {v0 v1 v2 : Value} (h : C3 W b v0 v1 v2) : W.cell? ⟨b, 0, none⟩ = some v0 ∧ W.cell? ⟨b, 1, none⟩ = some v1 ∧ W.cell? ⟨b, 2, none⟩ = some v2 ∧ W.frozen? ⟨b, 0, none⟩ = false ∧ W.frozen? ⟨b, 1, none⟩ = false ∧ W.frozen? ⟨b, 2, none⟩ = false := by
  refine ⟨?_, ?_, ?_, ?_, ?_, ?_⟩
  · rw [cell_of_row W b 0 _ _ _ h]; rfl
  · rw [cell_of_row W b 1 _ _ _ h]; rfl
  · rw [cell_of_row W b 2 _ _ _ h]; rfl
  all_goals (unfold C3 at h; simp [World.frozen?, h])
theorem C3.gb {W W' : World} {g b : Nat} {v0 v1 v2 : Value} (h : C3 W b v0 v1 v2) (k : Gb g W W') (hne : b ≠ g) : C3 W' b v0 v1 v2 := (k.block b (block_lt h) (fun e => hne (by injection e))).trans h
theorem C3.new (W : World) (v0 v1 v2 : Value) : C3 (W.alloc (.cells #[v0, v1, v2] 62)) W.heap.size v0 v1 v2 := heap_alloc_new' W _
theorem C3.lt {W : World} {b : Nat} {v0 v1 v2 : Value} (h : C3 W b v0 v1 v2) : b < W.heap.size := block_lt h
theorem Gb.poke {g b i : Nat} {W W' : World} {v : Value} (h : Gb g W W') (hb : W.heap.size ≤ b) : Gb g W (W'.setCell ⟨b, i, none⟩ v) :=
  ⟨h.os, h.tape, h.output, by simpa using h.size, fun k hk hne => by
    have e : k ≠ b := by omega
    rw [← h.block k hk hne]
    simp [World.setCell, Array.getElem?_modify, Ne.symm e]⟩
theorem setCell_block {W : World} {b i k : Nat} {v : Value} (h : k ≠ b) : (W.setCell ⟨b, i, none⟩ v).heap[k]? = W.heap[k]? := by simp [World.setCell, Array.getElem?_modify, Ne.symm h]
theorem C3.other {W : World} {b b' i : Nat} {v0 v1 v2 v : Value} (h : C3 W b v0 v1 v2) (hne : b ≠ b') : C3 (W.setCell ⟨b', i, none⟩ v) b v0 v1 v2 := (setCell_block hne).trans h
theorem RAt.other {W : World} {g b i : Nat} {bs v : Value} {a k : Int} (h : RAt W g bs a k) (hne : g ≠ b) : RAt (W.setCell ⟨b, i, none⟩ v) g bs a k := (setCell_block hne).trans h
abbrev set3 (W : World) (b : Nat) (v0 v1 v2 : Value) : World := ((W.setCell ⟨b, 0, none⟩ v0).setCell ⟨b, 1, none⟩ v1).setCell ⟨b, 2, none⟩ v2
theorem C3.set2 {W : World} {b : Nat} {v0 v1 v2 : Value} (h : C3 W b v0 v1 v2) (u : Value) : C3 (W.setCell ⟨b, 2, none⟩ u) b v0 v1 u := by
  unfold C3 at h ⊢
  simp only [World.setCell, Array.getElem?_modify, if_true, h, Option.map_some]
  rfl
theorem C3.set1 {W : World} {b : Nat} {v0 v1 v2 : Value} (h : C3 W b v0 v1 v2) (u : Value) : C3 (W.setCell ⟨b, 1, none⟩ u) b v0 u v2 := by
  unfold C3 at h ⊢
  simp only [World.setCell, Array.getElem?_modify, if_true, h, Option.map_some]
  rfl
theorem C3.set0 {W : World} {b : Nat} {v0 v1 v2 : Value} (h : C3 W b v0 v1 v2) (u : Value) : C3 (W.setCell ⟨b, 0, none⟩ u) b u v1 v2 := by
  unfold C3 at h ⊢
  simp only [World.setCell, Array.getElem?_modify, if_true, h, Option.map_some]
  rfl
theorem C3.set3 {W : World} {b : Nat} {v0 v1 v2 : Value} (h : C3 W b v0 v1 v2) (u0 u1 u2 : Value) : C3 (set3 W b u0 u1 u2) b u0 u1 u2 := ((h.set0 u0).set1 u1).set2 u2
theorem Gb.set3 {g b : Nat} {W W' : World} {v0 v1 v2 : Value} (h : Gb g W W') (hb : W.heap.size ≤ b) : Gb g W (set3 W' b v0 v1 v2) := ((h.poke hb).poke hb).poke hb
theorem set3_block {W : World} {b k : Nat} {v0 v1 v2 : Value} (h : k ≠ b) : (set3 W b v0 v1 v2).heap[k]? = W.heap[k]? := by
  unfold Go.Proofs.YteilglpdmfiinaaDoor.set3
  rw [setCell_block h, setCell_block h, setCell_block h]
theorem RAt.setN3 {W : World} {g b : Nat} {bs : Value} {a k : Int} {v0 v1 v2 : Value} (h : RAt W g bs a k) (hne : g ≠ b) : RAt (Go.Proofs.YteilglpdmfiinaaDoor.set3 W b v0 v1 v2) g bs a k := (set3_block hne).trans h
theorem objR_no {W W' : World} {g d a : Nat} {bs : Value} {r : Option (Nd × Nat × Nat)} {t k : Int} {A1 A2 : Option Addr} {n1 c1 n2 c2 : Nat} (hk : k ≠ 0) (hr : r = none) (h : Gb g W W') : ObjR W g bs d a r (.returned (.tuple #[.agg #[.int .i64 t, .slice A1 n1 c1, .slice A2 n2 c2], .int .i64 k])) W' :=
  ⟨h, .inl ⟨hr, t, A1, n1, c1, A2, n2, c2, k, hk, rfl⟩⟩
theorem win_take {L : List UInt8} {e p n : Nat} (h : p + n ≤ e) : ((L.take e).drop p).take n = (L.take (p + n)).drop p := by
  rw [List.drop_take, List.take_take, List.drop_take, Nat.min_eq_left (by omega)]
  congr 1
  omega
set_option maxHeartbeats 4000000 in
theorem obj_of {d : Nat} (hd9 : d ≤ 9) (H : ∀ d', d = d' + 1 → ObjsOk d') : ObjOk d := by
  intro w0 W bs L a e cnt hb bel hr hae he hl hc
  have HH := Lib.hid H
  clear H
  obtain ⟨A0, n0, c0, rfl, hn0, hnc0, hcm0, _⟩ := hb.bytes
  subst hn0
  unfold maxLen at hcm0
  have HB := Lib.hid hb
  clear hb
  have hgl := hr.lt
  obtain ⟨dep, hdep⟩ : ∃ dep : Int, dep = 9 - (d : Int) := ⟨_, rfl⟩
  rw [← hdep]
  have hdep9 : 0 ≤ dep ∧ dep ≤ 9 := by omega
  obtain ⟨hdepl, hdepu⟩ := hdep9
  have hdep0 : -1000000 ≤ dep ∨ True := .inr trivial
  have HDEP := Lib.hid hdep
  clear hdep hdep0
  obtain ⟨r, hr'⟩ : ∃ r, objP1 objsP dep cnt ((L.take e).drop a) = r := ⟨_, rfl⟩
  rw [hr']
  have HRR := Lib.hid hr'
  clear hr'
  have x1 : Ext W (W.alloc (.cells #[.int .i64 0, .slice none 0 0, .slice none 0 0] 62)) := (Below.refl _ _).alloc (Nat.le_refl _) _
  have hrc := C3.new W (.int .i64 0) (.slice none 0 0) (.slice none 0 0)
  go_enter Tryd.func132, Tryd.ntmps132
  go_wp2_with fail
  generalize W.alloc (.cells #[.int .i64 0, .slice none 0 0, .slice none 0 0] 62) = W1 at *
  have bel1 := Gb.below bel (Gb.of _ x1) (Nat.le_refl _)
  refine (rtag_any HB.out bel1 (hr.ext x1) he hl).mono ?_
  rintro en W2 ⟨g2, hx⟩
  have hne : W.heap.size ≠ w0.heap.size := by omega
  have hrc2 := hrc.gb g2 hne
  have gW2 : Gb w0.heap.size W W2 := (Gb.of _ x1).tr g2
  rcases hx with ⟨ht, x, k, hk, rfl⟩ | ⟨t, k, ht, rfl, r2⟩
  · have hk2 : (k != 0) = true := by simpa using hk
    obtain ⟨q0, q1, q2, f0, f1, f2⟩ := hrc2.cells
    have HN := Lib.hid (show r = none by rw [← HRR.out]; unfold objP1 headP; rw [ht])
    clear ht hr
    go_wp2_with fail
    obtain ⟨w0', w1', w2', _, _, _⟩ := (hrc2.set3 (.int .i64 0) (.slice none 0 0) (.slice none 0 0)).cells
    refine bodyPost_ret (v := .tuple #[.agg #[.int .i64 0, .slice none 0 0, .slice none 0 0], .int .i64 k]) ?_ rfl (objR_no hk HN.out (gW2.set3 (Nat.le_refl _)))
    simp [results, Tryd.results132, go_sem, w0', w1', w2']
  · obtain ⟨k0, k1, k2, t0, t1, hv⟩ := tagP_bd ht
    rw [win_len he] at k2
    have HT := Lib.hid ht
    clear ht hr
    go_wp2_with fail
    refine (cons_any t _ t0 t1).mono ?_
    rintro en' W2' ⟨rfl, rfl⟩
    obtain ⟨q, hq⟩ : ∃ q, consT t = q := ⟨_, rfl⟩
    rw [hq]
    have HQ := Lib.hid hq
    clear hq
    obtain ⟨s0, s1, s2, s3, sf1, sf3⟩ := r2.cells
    have hL := rlength_any HB.out (Gb.below bel1 g2 (Nat.le_refl _)) r2 he hl
    have HL := Lib.hid hL
    have hglr := r2.lt
    clear hL
    have sz2 := gW2.size
    cases q
    · go_wp2_with fail
      refine HL.out.mono ?_
      rintro en W3 ⟨g3, hx⟩
      have hrc3 := hrc2.gb g3 hne
      have gW3 : Gb w0.heap.size W W3 := gW2.tr g3
      have h3l := hrc3.lt
      clear s0 s1 s2 s3 sf1 sf3
      rcases hx with ⟨hn, x, kk, hkk, rfl⟩ | ⟨n, j, hn, rfl, r3⟩
      · have hk2 : (kk != 0) = true := by simpa using hkk
        obtain ⟨q0, q1, q2, f0, f1, f2⟩ := hrc3.cells
        have HN := Lib.hid (show r = none by
          rw [← HRR.out]
          unfold objP1 headP
          rw [HT.out]
          simp only [List.drop_drop]
          rw [hn])
        clear hn
        go_wp2_with fail
        obtain ⟨w0', w1', w2', _, _, _⟩ := (hrc3.set3 (.int .i64 0) (.slice none 0 0) (.slice none 0 0)).cells
        refine bodyPost_ret (v := .tuple #[.agg #[.int .i64 0, .slice none 0 0, .slice none 0 0], .int .i64 kk]) ?_ rfl (objR_no hkk HN.out (gW3.set3 (Nat.le_refl _)))
        simp [results, Tryd.results132, go_sem, w0', w1', w2']
      · obtain ⟨j0, j1, j2, n4⟩ := lenP_bd hn
        rw [win_len he] at j2
        have hhead : headP dep cnt ((L.take e).drop a) = if 8 < dep ∨ 256 < cnt + 1 ∨ e - a < k + j + n then none else some (t, k + j, n) := by
          unfold headP
          rw [HT.out]
          simp only [List.drop_drop, win_len he]
          rw [hn]
        have HHD := Lib.hid hhead
        obtain ⟨p, hp⟩ : ∃ p, p = a + k + j := ⟨_, rfl⟩
        rw [← hp] at r3
        have HPP := Lib.hid hp
        have hpe : p ≤ e := by omega
        have hap : a + k + j ≤ p := by omega
        obtain ⟨q0, q1, q2, f0, f1, f2⟩ := hrc3.cells
        obtain ⟨s0, s1, s2, s3, sf1, sf3⟩ := r3.cells
        have hgl3 := r3.lt
        have r4 := r3.set3 ((cnt : Int) + 1)
        have g4 : Gb w0.heap.size W (W3.setCell ⟨w0.heap.size, 3, none⟩ (.int .i64 ((cnt : Int) + 1))) := gW3.tr (Gb.set _ _ _ _)
        have hrc4 : C3 (W3.setCell ⟨w0.heap.size, 3, none⟩ (.int .i64 ((cnt : Int) + 1))) W.heap.size (.int .i64 0) (.slice none 0 0) (.slice none 0 0) := hrc3.gb (Gb.set _ _ _ _) hne
        have sz4 : (W3.setCell ⟨w0.heap.size, 3, none⟩ (.int .i64 ((cnt : Int) + 1))).heap.size = W3.heap.size := by simp
        clear hn hhead hp
        have HNO := fun (h : 8 < dep ∨ 256 < cnt + 1 ∨ e - a < k + j + n) => (show r = none by rw [← HRR.out]; unfold objP1; rw [HHD.out, if_pos h])
        have HNN := Lib.hid HNO
        clear HNO
        have wc : IntKind.i64.wrap ((cnt : Int) + 1) = (cnt : Int) + 1 := IntWalk.i64_in _ (by omega)
        by_cases hd8 : 8 < dep
        · have HN := Lib.hid (HNN.out (.inl hd8))
          go_wp2_with fail
          obtain ⟨w0', w1', w2', _, _, _⟩ := (hrc4.set3 (.int .i64 0) (.slice none 0 0) (.slice none 0 0)).cells
          refine bodyPost_ret (v := .tuple #[.agg #[.int .i64 0, .slice none 0 0, .slice none 0 0], .int .i64 7]) ?_ rfl (objR_no (by decide) HN.out (g4.set3 (Nat.le_refl _)))
          simp [results, Tryd.results132, go_sem, w0', w1', w2']
        · have hd0 : 1 ≤ d := by have := HDEP.out; omega
          by_cases hcn : 256 < (cnt : Int) + 1
          · have HN := Lib.hid (HNN.out (.inr (.inl (by omega))))
            go_wp2_with fail
            obtain ⟨w0', w1', w2', _, _, _⟩ := (hrc4.set3 (.int .i64 0) (.slice none 0 0) (.slice none 0 0)).cells
            refine bodyPost_ret (v := .tuple #[.agg #[.int .i64 0, .slice none 0 0, .slice none 0 0], .int .i64 2]) ?_ rfl (objR_no (by decide) HN.out (g4.set3 (Nat.le_refl _)))
            simp [results, Tryd.results132, go_sem, w0', w1', w2']
          · have wp : IntKind.i64.wrap ((e : Int) - (p : Int)) = (e : Int) - (p : Int) := IntWalk.i64_in _ (by omega)
            by_cases hfit : (e : Int) - (p : Int) < (n : Int)
            · have HN := Lib.hid (HNN.out (.inr (.inr (by have := HPP.out; omega))))
              go_wp2_with fail
              obtain ⟨w0', w1', w2', _, _, _⟩ := (hrc4.set3 (.int .i64 0) (.slice none 0 0) (.slice none 0 0)).cells
              refine bodyPost_ret (v := .tuple #[.agg #[.int .i64 0, .slice none 0 0, .slice none 0 0], .int .i64 6]) ?_ rfl (objR_no (by decide) HN.out (g4.set3 (Nat.le_refl _)))
              simp [results, Tryd.results132, go_sem, w0', w1', w2']
            · have HY := HHD.out.trans (if_neg (by have := HPP.out; omega))
              obtain ⟨d', rfl⟩ : ∃ d', d = d' + 1 := ⟨d - 1, by omega⟩
              have hrr : r = objP1 objsP dep cnt ((L.take e).drop a) := HRR.out.symm
              unfold objP1 at hrr
              rw [HY] at hrr
              simp only [List.drop_drop] at hrr
              rw [show a + (k + j) = p by have := HPP.out; omega, win_take (by omega), HQ.out] at hrr
              have HRY := Lib.hid (hrr.trans (if_neg (by decide)))
              clear hrr HY
              have r5 := r4.ext ((Below.refl _ _).alloc (Nat.le_refl _) (.cells #[.int .i64 t, .slice none 0 0, .slice none 0 0] 62))
              have x5 : Ext (W3.setCell ⟨w0.heap.size, 3, none⟩ (.int .i64 ((cnt : Int) + 1))) ((W3.setCell ⟨w0.heap.size, 3, none⟩ (.int .i64 ((cnt : Int) + 1))).alloc (.cells #[.int .i64 t, .slice none 0 0, .slice none 0 0] 62)) := (Below.refl _ _).alloc (Nat.le_refl _) _
              have g5 := g4.tr (Gb.of w0.heap.size x5)
              have hrc5 := hrc4.gb (Gb.of w0.heap.size x5) hne
              have hxc5 := C3.new (W3.setCell ⟨w0.heap.size, 3, none⟩ (.int .i64 ((cnt : Int) + 1))) (.int .i64 t) (.slice none 0 0) (.slice none 0 0)
              rw [sz4] at hxc5
              have hne5 : W3.heap.size ≠ w0.heap.size := by omega
              have hner : W3.heap.size ≠ W.heap.size := by omega
              have hner' : W.heap.size ≠ W3.heap.size := by omega
              have sz5 : ((W3.setCell ⟨w0.heap.size, 3, none⟩ (.int .i64 ((cnt : Int) + 1))).alloc (.cells #[.int .i64 t, .slice none 0 0, .slice none 0 0] 62)).heap.size = W3.heap.size + 1 := by simp
              have hnm1 : ((n : Int) == -1) = false := by simp
              obtain ⟨u0, u1, u2, u3, uf1, uf3⟩ := r5.cells
              obtain ⟨y0, y1, y2, yf0, yf1, yf2⟩ := hxc5.cells
              clear hrc3 hrc2 r4 g4 hrc4 x5
              have wpn : IntKind.i64.wrap ((p : Int) + (n : Int)) = (p : Int) + (n : Int) := IntWalk.i64_in _ (by omega)
              have hpn : p + n ≤ c0 := by omega
              have tpn : ((p : Int) + (n : Int)).toNat = p + n := by omega
              have tp : ((p : Int)).toNat = p := rfl
              have lpn : (p : Int) + (n : Int) ≤ (c0 : Int) := by omega
              have lpn2 : (p : Int) ≤ (p : Int) + (n : Int) := by omega
              have l0p : (0 : Int) ≤ (p : Int) := by omega
              have l0pn : (0 : Int) ≤ (p : Int) + (n : Int) := by omega
              have hrs := (HB.out.below (Gb.below bel g5 (Nat.le_refl _))).cut p (p + n) (by omega) (by rw [bvs_length]; omega)
              rw [Nat.add_sub_cancel_left, show ((bvs L).drop p).take n = bvs ((L.take (p + n)).drop p) by rw [List.drop_take, Nat.add_sub_cancel_left]; simp [bvs, List.map_take, List.map_drop]] at hrs
              have HRS := Lib.hid hrs
              clear hrs
              go_wp2_with fail
              generalize hW5 : (W3.setCell ⟨w0.heap.size, 3, none⟩ (.int .i64 ((cnt : Int) + 1))).alloc (.cells #[.int .i64 t, .slice none 0 0, .slice none 0 0] 62) = W5 at *
              clear hW5 uf1 uf3 u0 u1 u2 u3 y0 y1 y2 yf0 yf1 yf2 sz4 q0 q1 q2 f0 f1 f2 s0 s1 s2 s3 sf1 sf3
              refine wp_region_X 17 (by kernel_rfl) (by kernel_rfl) ?_
              simp only [List.take_succ_cons, List.take_zero, List.drop_succ_cons, List.drop_zero]
              intro w1 hw1
              have LL : ∀ m : Lt w1, Ext W5 m.1 := fun m => hw1.tr m.2
              have v0 : ∀ m : Lt w1, m.1.cell? ⟨w0.heap.size, 0, none⟩ = some (.slice A0 L.length c0) := fun m => (r5.ext (LL m)).cells.1
              have v1 : ∀ m : Lt w1, m.1.cell? ⟨w0.heap.size, 1, none⟩ = some (.int .i64 (p : Int)) := fun m => (r5.ext (LL m)).cells.2.1
              repeat (refine wpX_pure rfl rfl rfl rfl rfl (fun K hK => ?_); go_big_quiet_op; refine hK _ ?_; clear hK K)
              refine wpX_nil _ rfl rfl rfl rfl rfl ?_
              simp only [Act.put, List.setIfInBounds_toArray, List.set_cons_zero, List.set_cons_succ]
              repeat (refine wpX_pure rfl rfl rfl rfl rfl (fun K hK => ?_); go_big_quiet_op; refine hK _ ?_; clear hK K)
              refine wpX_nil _ rfl rfl rfl rfl rfl ?_
              simp only [Act.put, List.setIfInBounds_toArray, List.set_cons_zero, List.set_cons_succ]
              repeat (refine wpX_pure rfl rfl rfl rfl rfl (fun K hK => ?_); go_big_quiet_op; refine hK _ ?_; clear hK K)
              refine wpX_nil _ rfl rfl rfl rfl rfl ?_
              simp only [Act.put, List.setIfInBounds_toArray, List.set_cons_zero, List.set_cons_succ]
              repeat (refine wpX_pure rfl rfl rfl rfl rfl (fun K hK => ?_); go_big_quiet_op; refine hK _ ?_; clear hK K)
              refine wpX_callHole (fun v w => RdS (fun b => W5.heap.size ≤ b) w v (bvs ((L.take (p + n)).drop p))) (fun v w w' hb h => h.map fun k h1 h2 => ⟨h1, hb.block k h2⟩) rfl rfl rfl rfl (by kernel_rfl) rfl rfl (fun m => (cloneB_any _ (HRS.out.ext (LL m)) (by rw [List.length_drop, List.length_take]; omega)).mono fun _ _ ⟨A', n', cc', h1, h2, h3, h4⟩ => ⟨_, h1, h4, RdS.of h3 fun k hk => Nat.le_trans (LL m).size hk⟩) ?_
              simp only [Act.put, List.setIfInBounds_toArray, List.set_cons_zero, List.set_cons_succ]
              repeat (refine wpX_pure rfl rfl rfl rfl rfl (fun K hK => ?_); go_big_quiet_op; refine hK _ ?_; clear hK K)
              refine wpX_end1 (fun m u hu => ?_)
              simp only [Act.put, List.setIfInBounds_toArray, List.set_cons_zero, List.set_cons_succ]
              generalize (if c0 = p then A0 else Option.map (fun x => x.add p) A0) = A9
              have Lm := LL m
              obtain ⟨wy, hwy⟩ := m
              clear LL v0 v1
              have ry : RAt wy w0.heap.size (.slice A0 L.length c0) (p : Int) ((cnt : Int) + 1) := r5.ext Lm
              have hrcy := hrc5.gb (Gb.of w0.heap.size Lm) hne
              have hxcy := hxc5.gb (Gb.of w0.heap.size Lm) hne5
              have gWy := g5.tr (Gb.of w0.heap.size Lm)
              have hly := hrcy.lt
              have hlx := hxcy.lt
              have HU := Lib.hid hu
              obtain ⟨A', n', cc', hv'⟩ : ∃ A n c, u = .slice A n c := by obtain ⟨A, n, c, h, _⟩ := hu; exact ⟨_, _, _, h⟩
              clear hu
              subst hv'
              obtain ⟨u0, u1, u2, u3, uf1, uf3⟩ := ry.cells
              obtain ⟨q0, q1, q2, f0, f1, f2⟩ := hrcy.cells
              obtain ⟨y0, y1, y2, yf0, yf1, yf2⟩ := hxcy.cells
              have hne6 : w0.heap.size ≠ W3.heap.size := by omega
              have hne7 : w0.heap.size ≠ W.heap.size := by omega
              have hgy := ry.lt
              go_wp2_with fail
              have hrcz := ((hrcy.other (b' := W3.heap.size) (i := 1) (v := .slice A' n' cc') hner').other (b' := w0.heap.size) (i := 1) (v := .int .i64 ((p : Int) + (n : Int))) hne).set3 (.int .i64 t) (.slice A' n' cc') (.slice none 0 0)
              obtain ⟨w0', w1', w2', _, _, _⟩ := hrcz.cells
              have r6 : RAt ((wy.setCell ⟨W3.heap.size, 1, none⟩ (.slice A' n' cc')).setCell ⟨w0.heap.size, 1, none⟩ (.int .i64 ((p : Int) + (n : Int)))) w0.heap.size (.slice A0 L.length c0) ((p : Int) + (n : Int)) ((cnt : Int) + 1) := (ry.other hne6).set1 _
              have gZ := ((gWy.poke (b := W3.heap.size) (i := 1) (v := .slice A' n' cc') (by omega)).tr (Gb.set w0.heap.size 1 _ (.int .i64 ((p : Int) + (n : Int))))).set3 (v0 := .int .i64 t) (v1 := .slice A' n' cc') (v2 := .slice none 0 0) (Nat.le_refl W.heap.size)
              have hU7 := HU.out.map (S' := fun b => W.heap.size ≤ b) (w' := Go.Proofs.YteilglpdmfiinaaDoor.set3 ((wy.setCell ⟨W3.heap.size, 1, none⟩ (.slice A' n' cc')).setCell ⟨w0.heap.size, 1, none⟩ (.int .i64 ((p : Int) + (n : Int)))) W.heap.size (.int .i64 t) (.slice A' n' cc') (.slice none 0 0)) (fun b hb _ => ⟨by omega, ((set3_block (by omega)).trans (setCell_block (by omega))).trans (setCell_block (by omega))⟩)
              refine bodyPost_ret (v := .tuple #[.agg #[.int .i64 t, .slice A' n' cc', .slice none 0 0], .int .i64 0]) ?_ rfl ⟨gZ, .inr ⟨_, _, _, _, _, _, _, _, _, HRY.out, rfl, ?_, hU7, NdsS.nil _ _⟩⟩
              · simp [results, Tryd.results132, go_sem, w0', w1', w2']
              · have e1 : a + (k + j + n) = p + n := by have := HPP.out; omega
                have e2 : ((cnt + 1 : Nat) : Int) = (cnt : Int) + 1 := by omega
                rw [e1, Int.natCast_add, e2]
                exact r6.setN3 (by omega)
    · go_wp2_with fail
      refine HL.out.mono ?_
      rintro en W3 ⟨g3, hx⟩
      have hrc3 := hrc2.gb g3 hne
      have gW3 : Gb w0.heap.size W W3 := gW2.tr g3
      have h3l := hrc3.lt
      clear s0 s1 s2 s3 sf1 sf3
      rcases hx with ⟨hn, x, kk, hkk, rfl⟩ | ⟨n, j, hn, rfl, r3⟩
      · have hk2 : (kk != 0) = true := by simpa using hkk
        obtain ⟨q0, q1, q2, f0, f1, f2⟩ := hrc3.cells
        have HN := Lib.hid (show r = none by
          rw [← HRR.out]
          unfold objP1 headP
          rw [HT.out]
          simp only [List.drop_drop]
          rw [hn])
        clear hn
        go_wp2_with fail
        obtain ⟨w0', w1', w2', _, _, _⟩ := (hrc3.set3 (.int .i64 0) (.slice none 0 0) (.slice none 0 0)).cells
        refine bodyPost_ret (v := .tuple #[.agg #[.int .i64 0, .slice none 0 0, .slice none 0 0], .int .i64 kk]) ?_ rfl (objR_no hkk HN.out (gW3.set3 (Nat.le_refl _)))
        simp [results, Tryd.results132, go_sem, w0', w1', w2']
      · obtain ⟨j0, j1, j2, n4⟩ := lenP_bd hn
        rw [win_len he] at j2
        have hhead : headP dep cnt ((L.take e).drop a) = if 8 < dep ∨ 256 < cnt + 1 ∨ e - a < k + j + n then none else some (t, k + j, n) := by
          unfold headP
          rw [HT.out]
          simp only [List.drop_drop, win_len he]
          rw [hn]
        have HHD := Lib.hid hhead
        obtain ⟨p, hp⟩ : ∃ p, p = a + k + j := ⟨_, rfl⟩
        rw [← hp] at r3
        have HPP := Lib.hid hp
        have hpe : p ≤ e := by omega
        have hap : a + k + j ≤ p := by omega
        obtain ⟨q0, q1, q2, f0, f1, f2⟩ := hrc3.cells
        obtain ⟨s0, s1, s2, s3, sf1, sf3⟩ := r3.cells
        have hgl3 := r3.lt
        have r4 := r3.set3 ((cnt : Int) + 1)
        have g4 : Gb w0.heap.size W (W3.setCell ⟨w0.heap.size, 3, none⟩ (.int .i64 ((cnt : Int) + 1))) := gW3.tr (Gb.set _ _ _ _)
        have hrc4 : C3 (W3.setCell ⟨w0.heap.size, 3, none⟩ (.int .i64 ((cnt : Int) + 1))) W.heap.size (.int .i64 0) (.slice none 0 0) (.slice none 0 0) := hrc3.gb (Gb.set _ _ _ _) hne
        have sz4 : (W3.setCell ⟨w0.heap.size, 3, none⟩ (.int .i64 ((cnt : Int) + 1))).heap.size = W3.heap.size := by simp
        clear hn hhead hp
        have HNO := fun (h : 8 < dep ∨ 256 < cnt + 1 ∨ e - a < k + j + n) => (show r = none by rw [← HRR.out]; unfold objP1; rw [HHD.out, if_pos h])
        have HNN := Lib.hid HNO
        clear HNO
        have wc : IntKind.i64.wrap ((cnt : Int) + 1) = (cnt : Int) + 1 := IntWalk.i64_in _ (by omega)
        by_cases hd8 : 8 < dep
        · have HN := Lib.hid (HNN.out (.inl hd8))
          go_wp2_with fail
          obtain ⟨w0', w1', w2', _, _, _⟩ := (hrc4.set3 (.int .i64 0) (.slice none 0 0) (.slice none 0 0)).cells
          refine bodyPost_ret (v := .tuple #[.agg #[.int .i64 0, .slice none 0 0, .slice none 0 0], .int .i64 7]) ?_ rfl (objR_no (by decide) HN.out (g4.set3 (Nat.le_refl _)))
          simp [results, Tryd.results132, go_sem, w0', w1', w2']
        · have hd0 : 1 ≤ d := by have := HDEP.out; omega
          by_cases hcn : 256 < (cnt : Int) + 1
          · have HN := Lib.hid (HNN.out (.inr (.inl (by omega))))
            go_wp2_with fail
            obtain ⟨w0', w1', w2', _, _, _⟩ := (hrc4.set3 (.int .i64 0) (.slice none 0 0) (.slice none 0 0)).cells
            refine bodyPost_ret (v := .tuple #[.agg #[.int .i64 0, .slice none 0 0, .slice none 0 0], .int .i64 2]) ?_ rfl (objR_no (by decide) HN.out (g4.set3 (Nat.le_refl _)))
            simp [results, Tryd.results132, go_sem, w0', w1', w2']
          · have wp : IntKind.i64.wrap ((e : Int) - (p : Int)) = (e : Int) - (p : Int) := IntWalk.i64_in _ (by omega)
            by_cases hfit : (e : Int) - (p : Int) < (n : Int)
            · have HN := Lib.hid (HNN.out (.inr (.inr (by have := HPP.out; omega))))
              go_wp2_with fail
              obtain ⟨w0', w1', w2', _, _, _⟩ := (hrc4.set3 (.int .i64 0) (.slice none 0 0) (.slice none 0 0)).cells
              refine bodyPost_ret (v := .tuple #[.agg #[.int .i64 0, .slice none 0 0, .slice none 0 0], .int .i64 6]) ?_ rfl (objR_no (by decide) HN.out (g4.set3 (Nat.le_refl _)))
              simp [results, Tryd.results132, go_sem, w0', w1', w2']
            · have HY := HHD.out.trans (if_neg (by have := HPP.out; omega))
              obtain ⟨d', rfl⟩ : ∃ d', d = d' + 1 := ⟨d - 1, by omega⟩
              have hrr : r = objP1 objsP dep cnt ((L.take e).drop a) := HRR.out.symm
              unfold objP1 at hrr
              rw [HY] at hrr
              simp only [List.drop_drop] at hrr
              rw [show a + (k + j) = p by have := HPP.out; omega, win_take (by omega), HQ.out] at hrr
              have HRY := Lib.hid (hrr.trans (if_pos rfl))
              clear hrr HY
              have r5 := r4.ext ((Below.refl _ _).alloc (Nat.le_refl _) (.cells #[.int .i64 t, .slice none 0 0, .slice none 0 0] 62))
              have x5 : Ext (W3.setCell ⟨w0.heap.size, 3, none⟩ (.int .i64 ((cnt : Int) + 1))) ((W3.setCell ⟨w0.heap.size, 3, none⟩ (.int .i64 ((cnt : Int) + 1))).alloc (.cells #[.int .i64 t, .slice none 0 0, .slice none 0 0] 62)) := (Below.refl _ _).alloc (Nat.le_refl _) _
              have g5 := g4.tr (Gb.of w0.heap.size x5)
              have hrc5 := hrc4.gb (Gb.of w0.heap.size x5) hne
              have hxc5 := C3.new (W3.setCell ⟨w0.heap.size, 3, none⟩ (.int .i64 ((cnt : Int) + 1))) (.int .i64 t) (.slice none 0 0) (.slice none 0 0)
              rw [sz4] at hxc5
              have hne5 : W3.heap.size ≠ w0.heap.size := by omega
              have hner : W3.heap.size ≠ W.heap.size := by omega
              have hner' : W.heap.size ≠ W3.heap.size := by omega
              have sz5 : ((W3.setCell ⟨w0.heap.size, 3, none⟩ (.int .i64 ((cnt : Int) + 1))).alloc (.cells #[.int .i64 t, .slice none 0 0, .slice none 0 0] 62)).heap.size = W3.heap.size + 1 := by simp
              have hnm1 : ((n : Int) == -1) = false := by simp
              obtain ⟨u0, u1, u2, u3, uf1, uf3⟩ := r5.cells
              obtain ⟨y0, y1, y2, yf0, yf1, yf2⟩ := hxc5.cells
              clear hrc3 hrc2 r4 g4 hrc4 x5
              have hO := HH.out d' rfl w0 _ _ L p (p + n) (cnt + 1) HB.out (Gb.below bel g5 (Nat.le_refl _)) r5 (by omega) (by omega) hl (by omega)
              rw [Int.natCast_add, show (9 : Int) - (d' : Int) = dep + 1 by have := HDEP.out; omega] at hO
              have HO := Lib.hid hO
              have wpn : IntKind.i64.wrap ((p : Int) + (n : Int)) = (p : Int) + (n : Int) := IntWalk.i64_in _ (by omega)
              have wdd : IntKind.i64.wrap (dep + 1) = dep + 1 := IntWalk.i64_in _ (by omega)
              clear hO
              go_wp2_with fail
              generalize hW5 : (W3.setCell ⟨w0.heap.size, 3, none⟩ (.int .i64 ((cnt : Int) + 1))).alloc (.cells #[.int .i64 t, .slice none 0 0, .slice none 0 0] 62) = W5 at *
              clear hW5 uf1 uf3 u0 u1 u2 u3 y0 y1 y2 yf0 yf1 yf2 sz4 q0 q1 q2 f0 f1 f2 s0 s1 s2 s3 sf1 sf3
              refine HO.out.mono ?_
              rintro en W6 ⟨g6, hx⟩
              have hrc6 := hrc5.gb g6 hne
              have hxc6 := hxc5.gb g6 hne5
              obtain ⟨q0, q1, q2, f0, f1, f2⟩ := hrc6.cells
              obtain ⟨y0, y1, y2, yf0, yf1, yf2⟩ := hxc6.cells
              have hl6 := hrc6.lt
              have hl7 := hxc6.lt
              have gW6 := g5.tr g6
              rcases hx with ⟨hn0, A', n', c', kk, hkk, rfl⟩ | ⟨ks, c1, A', n', cc', hn0, rfl, r6, nd6⟩
              · have HN := Lib.hid (show r = none by rw [HRY.out, hn0])
                clear hn0
                go_wp2_with fail
                obtain ⟨w0', w1', w2', _, _, _⟩ := ((hrc6.other (b' := W3.heap.size) (i := 2) (v := .slice A' n' c') hner').set3 (.int .i64 t) (.slice none 0 0) (.slice A' n' c')).cells
                refine bodyPost_ret (v := .tuple #[.agg #[.int .i64 t, .slice none 0 0, .slice A' n' c'], .int .i64 kk]) ?_ rfl (objR_no hkk HN.out ((gW6.poke (by omega)).set3 (Nat.le_refl _)))
                simp [results, Tryd.results132, go_sem, w0', w1', w2']
              · have HN := Lib.hid (show r = some (Nd.mk t [] ks, c1, k + j + n) by rw [HRY.out, hn0])
                have nd7 := nd6.map (S' := fun b => W.heap.size ≤ b) (w' := Go.Proofs.YteilglpdmfiinaaDoor.set3 (W6.setCell ⟨W3.heap.size, 2, none⟩ (.slice A' n' cc')) W.heap.size (.int .i64 t) (.slice none 0 0) (.slice A' n' cc')) (fun b hb _ => ⟨by omega, (set3_block (by omega)).trans (setCell_block (by omega))⟩)
                have HND := Lib.hid nd7
                clear hn0 nd6 nd7
                go_wp2_with fail
                obtain ⟨w0', w1', w2', _, _, _⟩ := ((hrc6.other (b' := W3.heap.size) (i := 2) (v := .slice A' n' cc') hner').set3 (.int .i64 t) (.slice none 0 0) (.slice A' n' cc')).cells
                refine bodyPost_ret (v := .tuple #[.agg #[.int .i64 t, .slice none 0 0, .slice A' n' cc'], .int .i64 0]) ?_ rfl ⟨(gW6.poke (by omega)).set3 (Nat.le_refl _), .inr ⟨_, _, _, _, _, _, _, _, _, HN.out, rfl, ?_, RdS.nil _, HND.out⟩⟩
                · simp [results, Tryd.results132, go_sem, w0', w1', w2']
                · have e1 : a + (k + j + n) = p + n := by have := HPP.out; omega
                  rw [e1]
                  exact (r6.other (by omega)).setN3 (by omega)
end Go.Proofs.YteilglpdmfiinaaDoor

namespace Go.Proofs.YteilglpdmfiinaaDoor
open Go.RowKit
set_option linter.unusedVariables false
set_option maxRecDepth 100000

theorem objs_all : ∀ d, d ≤ 9 → ObjsOk d
  | 0, h => objs_of (obj_of h fun d' e => by omega)
  | d + 1, h => objs_of (obj_of h fun d' e => by
      obtain rfl : d' = d := by omega
      exact objs_all _ (by omega))
/-- A call that returns objects, or none with an error. -/
def ParR (w : World) (d : Nat) (r : Option (List Nd × Nat)) (en : Ending) (w' : World) : Prop := Ext w w' ∧
  ((r = none ∧ ∃ (A : Option Addr) (n c : Nat) (k : Int), k ≠ 0 ∧ en = .returned (.tuple #[.slice A n c, .int .i64 k])) ∨
   (∃ ts k A n cc, r = some (ts, k) ∧ en = .returned (.tuple #[.slice A n cc, .int .i64 0]) ∧ NdsRd d w' (.slice A n cc) ts))
/-- The objects of bytes; bytes that are too many have none. -/
def parP (l : List UInt8) : Option (List Nd × Nat) := if 4096 < l.length then none else objsP 1 0 l
set_option maxHeartbeats 1000000 in
theorem parse_any {a : Value} {l : List UInt8} (w : World) (ha : Rd w a (bvs l)) (hl : l.length ≤ 140737488355328) : Calls Tryd.prog 66 #[a, .bool true] w (ParR w 8 (parP l)) := by
  have ha0 := ha
  obtain ⟨A, n, c, rfl, hn, hnc, hcm, _⟩ := ha.bytes
  subst hn
  unfold maxLen at hcm
  clear ha
  have HA := Lib.hid ha0
  clear ha0
  by_cases h : 4096 < l.length
  · have HP := Lib.hid (show parP l = none from if_pos h)
    have h' : (4096 : Int) < (l.length : Int) := by omega
    go_enter Tryd.func66, Tryd.ntmps66
    go_wp2
    go_ret2
    exact ⟨Below.refl _ _, .inl ⟨HP.out, none, 0, 0, 2, by decide, rfl⟩⟩
  · have HP := Lib.hid (show parP l = objsP 1 0 l from if_neg h)
    have h' : ¬ (4096 : Int) < (l.length : Int) := by omega
    have x1 : Ext w (w.alloc (.cells #[.slice A l.length c, .int .i64 0, .bool true, .int .i64 0] 122)) := (Below.refl _ _).alloc (Nat.le_refl _) _
    have r1 : RAt (w.alloc (.cells #[.slice A l.length c, .int .i64 0, .bool true, .int .i64 0] 122)) w.heap.size (.slice A l.length c) ((0 : Nat) : Int) ((0 : Nat) : Int) := heap_alloc_new' w _
    have hO := objs_all 8 (by omega) w _ _ l 0 l.length 0 HA.out x1 r1 (Nat.zero_le _) (Nat.le_refl _) (by omega) (by omega)
    rw [List.take_length, List.drop_zero] at hO
    have HO := Lib.hid hO
    clear hO r1
    go_enter Tryd.func66, Tryd.ntmps66
    go_wp2_with fail
    refine HO.out.mono ?_
    rintro en w2 ⟨g2, hx⟩
    have e2 : Ext w w2 := Gb.below x1 g2 (Nat.le_refl _)
    rcases hx with ⟨hn, A', n', c', k, hk, rfl⟩ | ⟨ts, k, A', n', cc, hn, rfl, _, nd⟩
    · have HN := Lib.hid (HP.out.trans hn)
      clear hn
      go_wp2_with fail
      go_ret2
      exact ⟨e2, .inl ⟨HN.out, A', n', c', k, hk, rfl⟩⟩
    · have HN := Lib.hid (HP.out.trans hn)
      have HD := Lib.hid nd.rd
      clear hn nd
      go_wp2_with fail
      go_ret2
      exact ⟨e2, .inr ⟨ts, k, A', n', cc, HN.out, rfl, HD.out⟩⟩
end Go.Proofs.YteilglpdmfiinaaDoor
