/- Parts Tr Ts Qb of the proof. -/
import Derived.Test.YthbpdhanljpigaaGreatDoorVah
import Derived.BigQuiet
import Derived.Laws.AppendOwn
namespace Go.Proofs.YthbpdhanljpigaaGreatDoor
open Go.RowKit
set_option linter.unusedVariables false
set_option maxRecDepth 100000
abbrev Gb (g : Nat) (W W' : World) : Prop := W.grownBy W' (some g)
theorem Gb.refl (g : Nat) (W : World) : Gb g W W := World.grownBy.refl _ _
theorem Gb.tr {g : Nat} {a b c : World} (h : Gb g a b) (k : Gb g b c) : Gb g a c := World.grownBy.trans h k
theorem Gb.set (g i : Nat) (W : World) (v : Value) : Gb g W (W.setCell ⟨g, i, none⟩ v) := ⟨rfl, rfl, rfl, by simp, fun k hk hne => by
  have : k ≠ g := fun e => hne (by rw [e])
  simp [World.setCell, Array.getElem?_modify, Ne.symm this]⟩
theorem Gb.of (g : Nat) {W W' : World} (h : Ext W W') : Gb g W W' := ⟨h.os, h.tape, h.output, h.size, fun i hi _ => h.block i hi⟩
theorem Gb.below {w0 W W' : World} {g : Nat} (h : Below w0.heap.size w0 W) (k : Gb g W W') (hg : w0.heap.size ≤ g) : Below w0.heap.size w0 W' := h.grown k h.size (fun r hr => by obtain rfl := Option.some.inj hr; exact hg)
theorem byteI_win {L : List UInt8} {e a i : Nat} (h : a + i < e) : byteI ((L.take e).drop a) i = byteI L (a + i) := by
  unfold byteI
  simp only [List.getD_eq_getElem?_getD, List.getElem?_drop, List.getElem?_take, if_pos h]
theorem win_len {L : List UInt8} {e a : Nat} (h : e ≤ L.length) : ((L.take e).drop a).length = e - a := by rw [List.length_drop, List.length_take, Nat.min_eq_left h]
theorem ifb_false {α : Type} {b : Bool} {x y : α} (h : b = false) : (if b = true then x else y) = y := if_neg (by rw [h]; decide)
theorem ifb_true {α : Type} {b : Bool} {x y : α} (h : b = true) : (if b = true then x else y) = x := if_pos h
theorem Gb.step1 {g : Nat} {W W' : World} (h : Ext W W') (v : Value) : Gb g W (W'.setCell ⟨g, 1, none⟩ v) := (Gb.of g h).tr (Gb.set g 1 W' v)
end Go.Proofs.YthbpdhanljpigaaGreatDoor
namespace Go.Proofs.YthbpdhanljpigaaGreatDoor
open Go.RowKit
set_option linter.unusedVariables false
set_option maxRecDepth 100000
theorem num_lt4 (l : List UInt8) {j : Nat} (hj : j ≤ 4) : 0 ≤ num (l.take j) ∧ num (l.take j) < 4294967296 := by
  obtain ⟨h1, h2⟩ := num_bd _ (l.take j) rfl
  have h3 : (l.take j).length ≤ 4 := by rw [List.length_take]; omega
  have : ∀ k, k ≤ 4 → (256 : Int) ^ k ≤ 4294967296 := by decide
  have := this _ h3
  omega
end Go.Proofs.YthbpdhanljpigaaGreatDoor
namespace Go.Proofs.YthbpdhanljpigaaGreatDoor
open Go.RowKit
set_option linter.unusedVariables false
set_option maxRecDepth 100000
/-- The reader's block: the bytes, where it stands, strict, the count. -/
def RAq (W : World) (g : Nat) (bs : Value) (q : Bool) (at_ : Int) (cnt : Int) : Prop := W.heap[g]? = some (.cells #[bs, .int .i64 at_, .bool q, .int .i64 cnt] 140 (0, 0))
theorem RAq.cells {W : World} {g : Nat} {bs : Value} {q : Bool} {a k : Int} (h : RAq W g bs q a k) : W.cell? ⟨g, 0, none⟩ = some bs ∧ W.cell? ⟨g, 1, none⟩ = some (.int .i64 a) ∧ W.cell? ⟨g, 2, none⟩ = some (.bool q) ∧ W.cell? ⟨g, 3, none⟩ = some (.int .i64 k) ∧ W.frozen? ⟨g, 1, none⟩ = false ∧ W.frozen? ⟨g, 3, none⟩ = false := by
  refine ⟨?_, ?_, ?_, ?_, ?_, ?_⟩
  · rw [cell_of_row W g 0 _ _ _ h]; rfl
  · rw [cell_of_row W g 1 _ _ _ h]; rfl
  · rw [cell_of_row W g 2 _ _ _ h]; rfl
  · rw [cell_of_row W g 3 _ _ _ h]; rfl
  · unfold RAq at h; simp [World.frozen?, h]
  · unfold RAq at h; simp [World.frozen?, h]
theorem RAq.set1 {W : World} {g : Nat} {bs : Value} {q : Bool} {a k : Int} (h : RAq W g bs q a k) (a' : Int) : RAq (W.setCell ⟨g, 1, none⟩ (.int .i64 a')) g bs q a' k := by
  unfold RAq at h ⊢
  simp only [World.setCell, Array.getElem?_modify, if_true, h, Option.map_some]
  rfl
theorem RAq.set3 {W : World} {g : Nat} {bs : Value} {q : Bool} {a k : Int} (h : RAq W g bs q a k) (k' : Int) : RAq (W.setCell ⟨g, 3, none⟩ (.int .i64 k')) g bs q a k' := by
  unfold RAq at h ⊢
  simp only [World.setCell, Array.getElem?_modify, if_true, h, Option.map_some]
  rfl
theorem RAq.ext {W W' : World} {g : Nat} {bs : Value} {q : Bool} {a k : Int} (h : RAq W g bs q a k) (b : Ext W W') : RAq W' g bs q a k := (b.block g (block_lt h)).trans h
theorem RAq.lt {W : World} {g : Nat} {bs : Value} {q : Bool} {a k : Int} (h : RAq W g bs q a k) : g < W.heap.size := block_lt h
theorem tagX_win {L : List UInt8} {e a : Nat} (h : e ≤ L.length) : tagX ((L.take e).drop a) =
    if e ≤ a then .error 6 else if longT (byteI L a) then (if e ≤ a + 1 then .error 6 else if validT (256 * byteI L a + byteI L (a + 1)) then .ok (256 * byteI L a + byteI L (a + 1), 2) else .error 4)
    else if validT (byteI L a) then .ok (byteI L a, 1) else .error 4 := by
  unfold tagX
  rw [win_len h]
  by_cases h1 : e ≤ a
  · rw [if_pos (by omega), if_pos h1]
  · rw [if_neg (by omega), if_neg h1, byteI_win (i := 0) (by omega), Nat.add_zero]
    by_cases h2 : e ≤ a + 1
    · rw [if_pos (show e - a < 2 by omega), if_pos h2]
    · rw [if_neg (show ¬ e - a < 2 by omega), if_neg h2, byteI_win (i := 1) (by omega), Int.mul_comm]
/-- What tag, what length returns. -/
def TagQ (W : World) (g : Nat) (bs : Value) (q : Bool) (a : Nat) (cnt : Int) (r : Except Int (Int × Nat)) (e : Ending) (W' : World) : Prop := Gb g W W' ∧
  ((∃ x k : Int, r = .error k ∧ e = .returned (.tuple #[.int .i64 x, .int .i64 k])) ∨
   (∃ t k, r = .ok (t, k) ∧ e = .returned (.tuple #[.int .i64 t, .int .i64 0]) ∧ RAq W' g bs q ((a + k : Nat) : Int) cnt))
theorem RAq.step1 {W W' : World} {g : Nat} {bs : Value} {q : Bool} {a k : Int} (h : RAq W g bs q a k) (b : Ext W W') (a' : Int) : RAq (W'.setCell ⟨g, 1, none⟩ (.int .i64 a')) g bs q a' k := (h.ext b).set1 a'
theorem cast_twoq {W : World} {g : Nat} {bs : Value} {q : Bool} {a k : Int} (h : RAq W g bs q (a + 1 + 1) k) : RAq W g bs q (a + ((2 : Nat) : Int)) k := by
  have e : a + 1 + 1 = a + ((2 : Nat) : Int) := by omega
  rw [← e]
  exact h
theorem tagQ_false {W W' : World} {g a : Nat} {bs : Value} {q : Bool} {cnt x z : Int} {r : Except Int (Int × Nat)} {k : Int} (hr : r = .error k) (h : Gb g W W') (h2 : RAq W' g bs q z cnt) : TagQ W g bs q a cnt r (.returned (.tuple #[.int .i64 x, .int .i64 k])) W' := ⟨h, .inl ⟨x, k, hr, rfl⟩⟩
theorem tagQ_true {W W' : World} {g a : Nat} {bs : Value} {q : Bool} {cnt t : Int} {n : Nat} {r : Except Int (Int × Nat)} (hr : r = .ok (t, n)) (h : Gb g W W') (h2 : RAq W' g bs q ((a : Int) + (n : Int)) cnt) : TagQ W g bs q a cnt r (.returned (.tuple #[.int .i64 t, .int .i64 0])) W' := ⟨h, .inr ⟨t, n, hr, rfl, by rw [Int.natCast_add]; exact h2⟩⟩
set_option maxHeartbeats 2000000 in
theorem rtagq_any {w0 W : World} {bs : Value} {q : Bool} {L : List UInt8} {a e : Nat} {cnt : Int} (hb : Rd w0 bs (bvs L)) (bel : Below w0.heap.size w0 W) (hr : RAq W w0.heap.size bs q (a : Int) cnt) (he : e ≤ L.length) (hl : L.length ≤ 4096) :
    Calls Tryz.prog 178 #[.pointer (some ⟨w0.heap.size, 0, none⟩), .int .i64 (e : Int)] W (TagQ W w0.heap.size bs q a cnt (tagX ((L.take e).drop a))) := by
  have HT := Lib.hid (tagX_win (a := a) he)
  obtain ⟨A, n, c, rfl, hn, hnc, hcm, hA⟩ := hb.bytes
  subst hn
  unfold maxLen at hcm
  obtain ⟨c0, c1, c2, c3, f1, f3⟩ := hr.cells
  have hgl := hr.lt
  have HR := Lib.hid hr
  clear hr c2 c3 f3 hb
  by_cases h1 : e ≤ a
  · have HN := Lib.hid (HT.out.trans (if_pos h1))
    have h1' : (e : Int) ≤ (a : Int) := by omega
    clear HT hA
    go_enter Tryz.func178, Tryz.ntmps178
    go_wp2
    go_ret2
    exact ⟨Gb.refl _ _, .inl ⟨0, 6, HN.out, rfl⟩⟩
  · have HT1 := Lib.hid (HT.out.trans (if_neg h1))
    clear HT
    obtain ⟨b, o, rfl, hbl, hcell⟩ := hA (by omega)
    have x0 := (bel.cell (p := ⟨b, o + a, none⟩) hbl).trans (hcell a (by omega))
    have hne : b ≠ w0.heap.size := by omega
    have hne' : w0.heap.size ≠ b := by omega
    have p0 := byteI_lo L a
    have p1 := byteI_hi L a
    have ha : a < L.length := by omega
    have wi1 : IntKind.i64.wrap ((a : Int)) = (a : Int) := IntWalk.i64_in _ (by omega)
    have zi1 : (0 : Int) ≤ (a : Int) := by omega
    have li1 : (a : Int) < (L.length : Int) := by omega
    have ti1 : ((a : Int)).toNat = a := by omega
    have wa : IntKind.i64.wrap ((a : Int) + 1) = (a : Int) + 1 := IntWalk.i64_in _ (by omega)
    have HL := fun w => long_any (byteI L a) w p0 (by omega)
    have hae : (a : Int) < (e : Int) := by omega
    cases hlg : longT (byteI L a) with
    | false =>
      rw [hlg] at HL HT1
      have HT2 := Lib.hid (HT1.out.trans (if_neg (by decide)))
      have HLL := Lib.hid HL
      have HV := fun w => valid_any (byteI L a) w p0 (by omega)
      clear hlg HT1 HL hA
      cases hv : validT (byteI L a) with
      | false =>
        rw [hv] at HV
        have HVV := Lib.hid HV
        have HN := Lib.hid (HT2.out.trans (ifb_false hv))
        clear hv HV HT2
        go_enter Tryz.func178, Tryz.ntmps178
        go_wp2_with (go_quiet (fail))
        refine (HLL.out _).mono ?_
        rintro e' w' ⟨rfl, rfl⟩
        go_wp2_with fail
        refine (HVV.out _).mono ?_
        rintro e' w' ⟨rfl, rfl⟩
        go_wp2_with fail
        go_ret2
        exact tagQ_false HN.out (Gb.step1 (Ext.drewN_ _ _) _) (HR.out.step1 (Ext.drewN_ _ _) _)
      | true =>
        rw [hv] at HV
        have HVV := Lib.hid HV
        have HN := Lib.hid (HT2.out.trans (ifb_true hv))
        clear hv HV HT2
        go_enter Tryz.func178, Tryz.ntmps178
        go_wp2_with (go_quiet (fail))
        refine (HLL.out _).mono ?_
        rintro e' w' ⟨rfl, rfl⟩
        go_wp2_with fail
        refine (HVV.out _).mono ?_
        rintro e' w' ⟨rfl, rfl⟩
        go_wp2_with fail
        go_ret2
        exact tagQ_true HN.out (Gb.step1 (Ext.drewN_ _ _) _) (HR.out.step1 (Ext.drewN_ _ _) _)
    | true =>
      rw [hlg] at HL HT1
      have HT2 := Lib.hid (HT1.out.trans (if_pos rfl))
      have HLL := Lib.hid HL
      clear hlg HT1 HL
      by_cases h2 : e ≤ a + 1
      · have HN := Lib.hid (HT2.out.trans (if_pos h2))
        have h2' : (e : Int) ≤ (a : Int) + 1 := by omega
        clear HT2 hA
        go_enter Tryz.func178, Tryz.ntmps178
        go_wp2_with (go_quiet (fail))
        refine (HLL.out _).mono ?_
        rintro e' w' ⟨rfl, rfl⟩
        go_wp2_with fail
        go_ret2
        exact tagQ_false HN.out (Gb.step1 (Ext.drewN_ _ _) _) (HR.out.step1 (Ext.drewN_ _ _) _)
      · have HT3 := Lib.hid (HT2.out.trans (if_neg h2))
        clear HT2
        have HX1 := Lib.hid (hcell (a + 1) (by omega))
        have r0 := byteI_lo L (a + 1)
        have r1 := byteI_hi L (a + 1)
        have HO := Lib.hid (or_low p0 (by omega) r0 r1)
        have hsum0 : 0 ≤ 256 * byteI L a + byteI L (a + 1) := by omega
        have hsum1 : 256 * byteI L a + byteI L (a + 1) < 65536 := by omega
        have HV := fun w => valid_any (256 * byteI L a + byteI L (a + 1)) w hsum0 hsum1
        clear hsum0 hsum1
        have hae2 : (a : Int) + 1 < (e : Int) := by omega
        have HS1 := Lib.hid (fun nq v => (HR.out.step1 (Ext.drewN_ W nq) v))
        cases hv : validT (256 * byteI L a + byteI L (a + 1)) with
        | false =>
          rw [hv] at HV
          have HVV := Lib.hid HV
          have HN := Lib.hid (HT3.out.trans (ifb_false hv))
          clear hv HV HT3
          go_enter Tryz.func178, Tryz.ntmps178
          go_wp2_with (go_quiet (fail))
          refine (HLL.out _).mono ?_
          rintro e' w' ⟨rfl, rfl⟩
          obtain ⟨W1, hW1⟩ : ∃ W1, W1 = (W.drewN nq).setCell ⟨w0.heap.size, 1, none⟩ (.int .i64 ((a : Int) + 1)) := ⟨_, rfl⟩
          rw [← hW1]
          have R1 : RAq W1 w0.heap.size (.slice (some ⟨b, o, none⟩) L.length c) q ((a : Int) + 1) cnt := by rw [hW1]; exact HS1.out _ _
          have g1 : Gb w0.heap.size W W1 := by rw [hW1]; exact Gb.step1 (Ext.drewN_ _ _) _
          have bel1 := Gb.below bel g1 (Nat.le_refl _)
          clear hW1 c0 c1 f1 x0 HS1 wa zi1 li1 ti1
          obtain ⟨c0, c1, c2, c3, f1, f3⟩ := R1.cells
          have x1 := (bel1.cell (p := ⟨b, o + (a + 1), none⟩) hbl).trans HX1.out
          have HO' := HO.out
          obtain ⟨a1, ha1⟩ : ∃ a1 : Nat, a1 = a + 1 := ⟨_, rfl⟩
          have e1 : (a : Int) + 1 = (a1 : Int) := by omega
          have HE1 := Lib.hid e1
          rw [← ha1] at x1 HO' HVV r0 r1
          try rw [← ha1] at HN
          rw [e1] at c1 ⊢
          have HR1 := Lib.hid R1
          have ha1l : a1 < L.length := by omega
          have hae3 : (a1 : Int) < (e : Int) := by omega
          have wi2 : IntKind.i64.wrap ((a1 : Int)) = (a1 : Int) := IntWalk.i64_in _ (by omega)
          have zi2 : (0 : Int) ≤ (a1 : Int) := by omega
          have li2 : (a1 : Int) < (L.length : Int) := by omega
          have ti2 : ((a1 : Int)).toNat = a1 := by omega
          have wb : IntKind.i64.wrap ((a1 : Int) + 1) = (a1 : Int) + 1 := IntWalk.i64_in _ (by omega)
          clear R1 c2 c3 f3 e1 ha1 hae2 hA hcell HLL HX1 h2 h1 hae wi1 HO hne hne'
          go_wp2_with (go_quiet (fail))
          refine (HVV.out _).mono ?_
          rintro e' w' ⟨rfl, rfl⟩
          go_wp2_with fail
          go_ret2
          exact tagQ_false HN.out (g1.tr (Gb.step1 (Ext.drewN_ _ _) _)) (cast_twoq (by rw [HE1.out]; exact HR1.out.step1 (Ext.drewN_ _ _) _))
        | true =>
          rw [hv] at HV
          have HVV := Lib.hid HV
          have HN := Lib.hid (HT3.out.trans (ifb_true hv))
          clear hv HV HT3
          go_enter Tryz.func178, Tryz.ntmps178
          go_wp2_with (go_quiet (fail))
          refine (HLL.out _).mono ?_
          rintro e' w' ⟨rfl, rfl⟩
          obtain ⟨W1, hW1⟩ : ∃ W1, W1 = (W.drewN nq).setCell ⟨w0.heap.size, 1, none⟩ (.int .i64 ((a : Int) + 1)) := ⟨_, rfl⟩
          rw [← hW1]
          have R1 : RAq W1 w0.heap.size (.slice (some ⟨b, o, none⟩) L.length c) q ((a : Int) + 1) cnt := by rw [hW1]; exact HS1.out _ _
          have g1 : Gb w0.heap.size W W1 := by rw [hW1]; exact Gb.step1 (Ext.drewN_ _ _) _
          have bel1 := Gb.below bel g1 (Nat.le_refl _)
          clear hW1 c0 c1 f1 x0 HS1 wa zi1 li1 ti1
          obtain ⟨c0, c1, c2, c3, f1, f3⟩ := R1.cells
          have x1 := (bel1.cell (p := ⟨b, o + (a + 1), none⟩) hbl).trans HX1.out
          have HO' := HO.out
          obtain ⟨a1, ha1⟩ : ∃ a1 : Nat, a1 = a + 1 := ⟨_, rfl⟩
          have e1 : (a : Int) + 1 = (a1 : Int) := by omega
          have HE1 := Lib.hid e1
          rw [← ha1] at x1 HO' HVV r0 r1
          try rw [← ha1] at HN
          rw [e1] at c1 ⊢
          have HR1 := Lib.hid R1
          have ha1l : a1 < L.length := by omega
          have hae3 : (a1 : Int) < (e : Int) := by omega
          have wi3 : IntKind.i64.wrap ((a1 : Int)) = (a1 : Int) := IntWalk.i64_in _ (by omega)
          have zi3 : (0 : Int) ≤ (a1 : Int) := by omega
          have li3 : (a1 : Int) < (L.length : Int) := by omega
          have ti3 : ((a1 : Int)).toNat = a1 := by omega
          have wb : IntKind.i64.wrap ((a1 : Int) + 1) = (a1 : Int) + 1 := IntWalk.i64_in _ (by omega)
          clear R1 c2 c3 f3 e1 ha1 hae2 hA hcell HLL HX1 h2 h1 hae wi1 HO hne hne'
          go_wp2_with (go_quiet (fail))
          refine (HVV.out _).mono ?_
          rintro e' w' ⟨rfl, rfl⟩
          go_wp2_with fail
          go_ret2
          exact tagQ_true HN.out (g1.tr (Gb.step1 (Ext.drewN_ _ _) _)) (cast_twoq (by rw [HE1.out]; exact HR1.out.step1 (Ext.drewN_ _ _) _))
theorem lenX_win {q c : Bool} {L : List UInt8} {e a : Nat} (h : e ≤ L.length) : lenX q c ((L.take e).drop a) =
    if e ≤ a then .error 6 else if byteI L a < 128 then .ok (byteI L a, 1) else if 132 < byteI L a then .error 5 else if byteI L a = 128 then (if c = true ∧ q = false then .ok (-1, 1) else .error 5) else
    if e < a + 1 + (byteI L a - 128).toNat then .error 6 else
    if q = true ∧ (num ((L.drop (a + 1)).take (byteI L a - 128).toNat) < 128 ∨ num ((L.drop (a + 1)).take (byteI L a - 128).toNat) / 256 ^ ((byteI L a - 128).toNat - 1) = 0) then .error 5 else
    .ok (num ((L.drop (a + 1)).take (byteI L a - 128).toNat), 1 + (byteI L a - 128).toNat) := by
  unfold lenX numX
  rw [win_len h]
  by_cases h1 : e ≤ a
  · rw [if_pos (by omega), if_pos h1]
  · rw [if_neg (by omega), if_neg h1, byteI_win (i := 0) (by omega), Nat.add_zero]
    by_cases h2 : byteI L a < 128
    · rw [if_pos h2, if_pos h2]
    · rw [if_neg h2, if_neg h2]
      by_cases h3 : 132 < byteI L a
      · rw [if_pos h3, if_pos h3]
      · rw [if_neg h3, if_neg h3]
        by_cases h5 : byteI L a = 128
        · rw [if_pos h5, if_pos h5]
        · rw [if_neg h5, if_neg h5]
          by_cases h4 : e < a + 1 + (byteI L a - 128).toNat
          · rw [if_pos (by omega), if_pos h4]
          · rw [if_neg (by omega), if_neg h4]
            have e1 : (((L.take e).drop a).drop 1).take (byteI L a - 128).toNat = (L.drop (a + 1)).take (byteI L a - 128).toNat := by
              rw [List.drop_drop, List.drop_take, List.take_take, Nat.min_eq_left (by omega)]
            rw [e1]
theorem lnQ_no {W W' : World} {g a : Nat} {bs : Value} {q : Bool} {cnt x : Int} {r : Except Int (Int × Nat)} {k : Int} (hr : r = .error k) (h : Gb g W W') : TagQ W g bs q a cnt r (.returned (.tuple #[.int .i64 x, .int .i64 k])) W' := ⟨h, .inl ⟨x, k, hr, rfl⟩⟩
theorem lnQ_yes {W W' : World} {g a : Nat} {bs : Value} {q : Bool} {cnt z t : Int} {n : Nat} {r : Except Int (Int × Nat)} (hr : r = .ok (t, n)) (hz : z = t) (h : Gb g W W') (h2 : RAq W' g bs q ((a + n : Nat) : Int) cnt) : TagQ W g bs q a cnt r (.returned (.tuple #[.int .i64 z, .int .i64 0])) W' := ⟨h, .inr ⟨t, n, hr, by rw [hz], h2⟩⟩
set_option maxHeartbeats 2000000 in
/-- No loop is reached. -/
theorem rlengthq_short {w0 W : World} {bs : Value} {q c op : Bool} {L : List UInt8} {a e : Nat} {cnt : Int} (hb : Rd w0 bs (bvs L)) (bel : Below w0.heap.size w0 W) (hr : RAq W w0.heap.size bs q (a : Int) cnt) (he : e ≤ L.length) (hl : L.length ≤ 4096) (hop : op = (c && !q))
    (h : e ≤ a ∨ byteI L a < 128 ∨ 132 < byteI L a ∨ byteI L a = 128 ∨ e < a + 1 + (byteI L a - 128).toNat) :
    Calls Tryz.prog 179 #[.pointer (some ⟨w0.heap.size, 0, none⟩), .int .i64 (e : Int), .bool op] W (TagQ W w0.heap.size bs q a cnt (lenX q c ((L.take e).drop a))) := by
  have HT := Lib.hid (lenX_win (q := q) (c := c) (a := a) he)
  obtain ⟨A, n, cp, rfl, hn, hnc, hcm, hA⟩ := hb.bytes
  subst hn
  unfold maxLen at hcm
  obtain ⟨c0, c1, c2, c3, f1, f3⟩ := hr.cells
  have hgl := hr.lt
  have HR := Lib.hid hr
  clear hr c2 c3 f3 hb
  have HH := Lib.hid h
  clear h
  by_cases h1 : e ≤ a
  · have HN := Lib.hid (HT.out.trans (if_pos h1))
    have h1' : (e : Int) ≤ (a : Int) := by omega
    clear HT hA
    go_enter Tryz.func179, Tryz.ntmps179
    go_wp2
    go_ret2
    exact lnQ_no HN.out (Gb.refl _ _)
  · have HT1 := Lib.hid (HT.out.trans (if_neg h1))
    clear HT
    obtain ⟨b, o, rfl, hbl, hcell⟩ := hA (by omega)
    have x0 := (bel.cell (p := ⟨b, o + a, none⟩) hbl).trans (hcell a (by omega))
    have hne : b ≠ w0.heap.size := by omega
    have hne' : w0.heap.size ≠ b := by omega
    have p0 := byteI_lo L a
    have p1 := byteI_hi L a
    have ha : a < L.length := by omega
    have wi4 : IntKind.i64.wrap ((a : Int)) = (a : Int) := IntWalk.i64_in _ (by omega)
    have zi4 : (0 : Int) ≤ (a : Int) := by omega
    have li4 : (a : Int) < (L.length : Int) := by omega
    have ti4 : ((a : Int)).toNat = a := by omega
    have wa : IntKind.i64.wrap ((a : Int) + 1) = (a : Int) + 1 := IntWalk.i64_in _ (by omega)
    have hae : (a : Int) < (e : Int) := by omega
    clear hcell hA
    by_cases h2 : byteI L a < 128
    · have HN := Lib.hid (HT1.out.trans (if_pos h2))
      clear HT1
      go_enter Tryz.func179, Tryz.ntmps179
      go_wp2_with (go_quiet (fail))
      go_ret2
      exact lnQ_yes HN.out (by omega) (Gb.step1 (Ext.drewN_ _ _) _) (HR.out.step1 (Ext.drewN_ _ _) _)
    · have HT2 := Lib.hid (HT1.out.trans (if_neg h2))
      clear HT1
      by_cases h3 : 132 < byteI L a
      · have HN := Lib.hid (HT2.out.trans (if_pos h3))
        clear HT2
        go_enter Tryz.func179, Tryz.ntmps179
        go_wp2_with (go_quiet (fail))
        go_ret2
        exact lnQ_no HN.out (Gb.step1 (Ext.drewN_ _ _) _)
      · by_cases h4 : byteI L a = 128
        · have HT3 := Lib.hid (((HT2.out.trans (if_neg h3)).trans (if_pos h4)))
          clear HT2 HH
          rw [h4] at x0
          clear h4 h2 h3 p0 p1
          cases c <;> cases q <;> subst hop
          case true.false =>
            have HN := Lib.hid (HT3.out.trans (if_pos ⟨rfl, rfl⟩))
            clear HT3
            go_enter Tryz.func179, Tryz.ntmps179
            go_wp2_with (go_quiet (fail))
            go_ret2
            exact lnQ_yes HN.out rfl (Gb.step1 (Ext.drewN_ _ _) _) (HR.out.step1 (Ext.drewN_ _ _) _)
          all_goals
            have HN := Lib.hid (HT3.out.trans (if_neg (fun h => by first | exact absurd h.1 (by decide) | exact absurd h.2 (by decide))))
            clear HT3
            go_enter Tryz.func179, Tryz.ntmps179
            go_wp2_with (go_quiet (fail))
            go_ret2
            exact lnQ_no HN.out (Gb.step1 (Ext.drewN_ _ _) _)
        · have hf : byteI L a = 129 ∨ byteI L a = 130 ∨ byteI L a = 131 ∨ byteI L a = 132 := by omega
          have HN := (HT2.out.trans (if_neg h3)).trans (if_neg h4)
          have h5 : e < a + 1 + (byteI L a - 128).toNat := by have := HH.out; omega
          have HN := Lib.hid (HN.trans (if_pos h5))
          clear HT2 HH h4 h2 h3 p0 p1
          rcases hf with hf | hf | hf | hf
          · rw [hf] at x0 h5
            clear hf
            have kk : bits .and .i64 129 15 = 129 - 128 := by decide
            have h5' : (e : Int) - ((a : Int) + 1) < 129 - 128 := by omega
            have wd : IntKind.i64.wrap ((e : Int) - ((a : Int) + 1)) = (e : Int) - ((a : Int) + 1) := IntWalk.i64_in _ (by omega)
            clear h5
            go_enter Tryz.func179, Tryz.ntmps179
            go_wp2_with (go_quiet (fail))
            go_ret2
            exact lnQ_no HN.out (Gb.step1 (Ext.drewN_ _ _) _)
          · rw [hf] at x0 h5
            clear hf
            have kk : bits .and .i64 130 15 = 130 - 128 := by decide
            have h5' : (e : Int) - ((a : Int) + 1) < 130 - 128 := by omega
            have wd : IntKind.i64.wrap ((e : Int) - ((a : Int) + 1)) = (e : Int) - ((a : Int) + 1) := IntWalk.i64_in _ (by omega)
            clear h5
            go_enter Tryz.func179, Tryz.ntmps179
            go_wp2_with (go_quiet (fail))
            go_ret2
            exact lnQ_no HN.out (Gb.step1 (Ext.drewN_ _ _) _)
          · rw [hf] at x0 h5
            clear hf
            have kk : bits .and .i64 131 15 = 131 - 128 := by decide
            have h5' : (e : Int) - ((a : Int) + 1) < 131 - 128 := by omega
            have wd : IntKind.i64.wrap ((e : Int) - ((a : Int) + 1)) = (e : Int) - ((a : Int) + 1) := IntWalk.i64_in _ (by omega)
            clear h5
            go_enter Tryz.func179, Tryz.ntmps179
            go_wp2_with (go_quiet (fail))
            go_ret2
            exact lnQ_no HN.out (Gb.step1 (Ext.drewN_ _ _) _)
          · rw [hf] at x0 h5
            clear hf
            have kk : bits .and .i64 132 15 = 132 - 128 := by decide
            have h5' : (e : Int) - ((a : Int) + 1) < 132 - 128 := by omega
            have wd : IntKind.i64.wrap ((e : Int) - ((a : Int) + 1)) = (e : Int) - ((a : Int) + 1) := IntWalk.i64_in _ (by omega)
            clear h5
            go_enter Tryz.func179, Tryz.ntmps179
            go_wp2_with (go_quiet (fail))
            go_ret2
            exact lnQ_no HN.out (Gb.step1 (Ext.drewN_ _ _) _)
/-- Where the loop stands. -/
def LnQ (W : World) (g : Nat) (bs : Value) (q : Bool) (L : List UInt8) (a k : Nat) (cnt : Int) (n i : Value) (wr : World) : Prop :=
  ∃ j : Nat, j ≤ k ∧ i = .int .i64 (j : Int) ∧ n = .int .i64 (num ((L.drop (a + 1)).take j)) ∧ Gb g W wr ∧ RAq wr g bs q ((a + 1 + j : Nat) : Int) cnt
set_option maxHeartbeats 4000000 in
theorem rlengthq_1 {w0 W : World} {bs : Value} {q c op : Bool} {L : List UInt8} {a e : Nat} {cnt : Int} (hb : Rd w0 bs (bvs L)) (bel : Below w0.heap.size w0 W) (hr : RAq W w0.heap.size bs q (a : Int) cnt) (he : e ≤ L.length) (hl : L.length ≤ 4096) (hop : op = (c && !q))
    (hf : byteI L a = 128 + 1) (hfit : a + 1 + 1 ≤ e) :
    Calls Tryz.prog 179 #[.pointer (some ⟨w0.heap.size, 0, none⟩), .int .i64 (e : Int), .bool op] W (TagQ W w0.heap.size bs q a cnt (lenX q c ((L.take e).drop a))) := by
  have HT := lenX_win (q := q) (c := c) (a := a) he
  rw [if_neg (by omega), hf, if_neg (by decide), if_neg (by decide), if_neg (by decide), show ((128 : Int) + 1 - 128).toNat = 1 from rfl, if_neg (by omega)] at HT
  have hld : (L.drop (a + 1)).length ≥ 1 := by rw [List.length_drop]; omega
  have HT' := Lib.hid HT
  clear HT
  obtain ⟨A, n, cp, rfl, hn, hnc, hcm, hA⟩ := hb.bytes
  subst hn
  unfold maxLen at hcm
  obtain ⟨c0, c1, c2, c3, f1, f3⟩ := hr.cells
  have hgl := hr.lt
  have HR := Lib.hid hr
  clear hr c2 c3 f3 hb
  obtain ⟨b, o, rfl, hbl, hcell⟩ := hA (by omega)
  have x0 := (bel.cell (p := ⟨b, o + a, none⟩) hbl).trans (hcell a (by omega))
  have hne : b ≠ w0.heap.size := by omega
  have hne' : w0.heap.size ≠ b := by omega
  have ha : a < L.length := by omega
  have wi5 : IntKind.i64.wrap ((a : Int)) = (a : Int) := IntWalk.i64_in _ (by omega)
  have zi5 : (0 : Int) ≤ (a : Int) := by omega
  have li5 : (a : Int) < (L.length : Int) := by omega
  have ti5 : ((a : Int)).toNat = a := by omega
  have wa : IntKind.i64.wrap ((a : Int) + 1) = (a : Int) + 1 := IntWalk.i64_in _ (by omega)
  have hae : (a : Int) < (e : Int) := by omega
  have HC := Lib.hid hcell
  rw [hf] at x0
  have x0 : W.cell? ⟨b, o + a, none⟩ = some (.int .u8 (128 + 1)) := x0
  simp only [Int.reduceAdd] at x0
  clear hcell hA hf
  have kk : bits .and .i64 (128 + 1) 15 = 1 := by decide
  simp only [Int.reduceAdd] at kk
  have h5' : 1 ≤ (e : Int) - ((a : Int) + 1) := by omega
  have wd : IntKind.i64.wrap ((e : Int) - ((a : Int) + 1)) = (e : Int) - ((a : Int) + 1) := IntWalk.i64_in _ (by omega)
  have S0 : ∀ nq, LnQ W w0.heap.size (.slice (some ⟨b, o, none⟩) L.length cp) q L a 1 cnt (.int .i64 0) (.int .i64 0) ((W.drewN nq).setCell ⟨w0.heap.size, 1, none⟩ (.int .i64 ((a : Int) + 1))) := fun nq =>
    ⟨0, by omega, rfl, rfl, Gb.step1 (Ext.drewN_ _ _) _, by rw [show ((a + 1 + 0 : Nat) : Int) = (a : Int) + 1 by omega]; exact HR.out.step1 (Ext.drewN_ _ _) _⟩
  have S0' := Lib.hid S0
  clear S0
  go_enter Tryz.func179, Tryz.ntmps179
  go_wp2_with (go_quiet (fail))
  go_loopw [10, 62] (fun n i wr => LnQ W w0.heap.size (.slice (some ⟨b, o, none⟩) L.length cp) q L a 1 cnt n i wr) (fun _ i _ => 1 - (intOf i).toNat)
  case atStart => exact S0'.out _
  case round =>
    obtain ⟨j, hj, rfl, rfl, gw, rw_⟩ := hrel
    obtain ⟨q3, q4⟩ := num_lt4 (L.drop (a + 1)) (j := j) (by omega)
    by_cases hlt : j < 1
    · have HS := Lib.hid (num_step (l := L.drop (a + 1)) (k := j) (by omega))
      rw [byteI_drop] at HS
      obtain ⟨p, hp⟩ : ∃ p, p = a + 1 + j := ⟨_, rfl⟩
      rw [← hp] at rw_ HS
      have belr := Gb.below bel gw (Nat.le_refl _)
      have x1 := (belr.cell (p := ⟨b, o + p, none⟩) hbl).trans (HC.out p (by omega))
      obtain ⟨c0, c1, c2, c3, f1, f3⟩ := rw_.cells
      have hgl := rw_.lt
      have HR1 := Lib.hid rw_
      have r0 := byteI_lo L p
      have r1 := byteI_hi L p
      have HO := or_low q3 (by omega) r0 r1
      have HP := Lib.hid hp
      have hpl : p < L.length := by omega
      clear rw_ c2 c3 f3 hp
      have wi6 : IntKind.i64.wrap ((p : Int)) = (p : Int) := IntWalk.i64_in _ (by omega)
      have zi6 : (0 : Int) ≤ (p : Int) := by omega
      have li6 : (p : Int) < (L.length : Int) := by omega
      have ti6 : ((p : Int)).toNat = p := by omega
      have wb : IntKind.i64.wrap ((p : Int) + 1) = (p : Int) + 1 := IntWalk.i64_in _ (by omega)
      generalize num ((L.drop (a + 1)).take j) = m at *
      go_wp2_with (go_quiet (fail))
      go_roundw
      case rel => exact ⟨j + 1, by omega, by go_num, by rw [HS.out], gw.tr (Gb.step1 (Ext.drewN_ _ _) _), by rw [show ((a + 1 + (j + 1) : Nat) : Int) = (p : Int) + 1 by have := HP.out; omega]; exact HR1.out.step1 (Ext.drewN_ _ _) _⟩
      case measure => simp [intOf]; omega
    · obtain rfl : j = 1 := by omega
      obtain ⟨c0, c1, c2, c3, f1, f3⟩ := rw_.cells
      have hgl := rw_.lt
      have HR1 := Lib.hid rw_
      clear rw_ c1 f1 f3 c3
      generalize num ((L.drop (a + 1)).take 1) = m at *
      cases q with
      | false =>
        have HN := Lib.hid (HT'.out.trans (if_neg (fun h => absurd h.1 (by decide))))
        clear HT'
        go_wp2_with (go_quiet (fail))
        go_ret2
        exact lnQ_yes HN.out rfl gw HR1.out
      | true =>
      by_cases hm : m < 128
      · have HN := Lib.hid (HT'.out.trans (if_pos ⟨rfl, .inl hm⟩))
        clear HT'
        go_wp2_with (go_quiet (fail))
        go_ret2
        exact lnQ_no HN.out gw
      · by_cases hz : m / 256 ^ (1 - 1) = 0
        · have HN := Lib.hid (HT'.out.trans (if_pos ⟨rfl, .inr hz⟩))
          have hz' : m / 256 ^ (1 - 1) = 0 := hz
          simp only [Nat.reduceSub, Int.reducePow] at hz'
          clear HT' hz
          first
            | (exfalso; omega)
            | (go_wp2_with (go_quiet (fail))
               go_ret2
               exact lnQ_no HN.out gw)
        · have HN := Lib.hid (HT'.out.trans (if_neg (fun h => h.2.elim hm hz)))
          have hz' : ¬ m / 256 ^ (1 - 1) = 0 := hz
          simp only [Nat.reduceSub, Int.reducePow] at hz'
          clear HT' hz
          go_wp2_with (go_quiet (fail))
          go_ret2
          exact lnQ_yes HN.out rfl gw HR1.out
set_option maxHeartbeats 4000000 in
theorem rlengthq_2 {w0 W : World} {bs : Value} {q c op : Bool} {L : List UInt8} {a e : Nat} {cnt : Int} (hb : Rd w0 bs (bvs L)) (bel : Below w0.heap.size w0 W) (hr : RAq W w0.heap.size bs q (a : Int) cnt) (he : e ≤ L.length) (hl : L.length ≤ 4096) (hop : op = (c && !q))
    (hf : byteI L a = 128 + 2) (hfit : a + 1 + 2 ≤ e) :
    Calls Tryz.prog 179 #[.pointer (some ⟨w0.heap.size, 0, none⟩), .int .i64 (e : Int), .bool op] W (TagQ W w0.heap.size bs q a cnt (lenX q c ((L.take e).drop a))) := by
  have HT := lenX_win (q := q) (c := c) (a := a) he
  rw [if_neg (by omega), hf, if_neg (by decide), if_neg (by decide), if_neg (by decide), show ((128 : Int) + 2 - 128).toNat = 2 from rfl, if_neg (by omega)] at HT
  have hld : (L.drop (a + 1)).length ≥ 2 := by rw [List.length_drop]; omega
  have HT' := Lib.hid HT
  clear HT
  obtain ⟨A, n, cp, rfl, hn, hnc, hcm, hA⟩ := hb.bytes
  subst hn
  unfold maxLen at hcm
  obtain ⟨c0, c1, c2, c3, f1, f3⟩ := hr.cells
  have hgl := hr.lt
  have HR := Lib.hid hr
  clear hr c2 c3 f3 hb
  obtain ⟨b, o, rfl, hbl, hcell⟩ := hA (by omega)
  have x0 := (bel.cell (p := ⟨b, o + a, none⟩) hbl).trans (hcell a (by omega))
  have hne : b ≠ w0.heap.size := by omega
  have hne' : w0.heap.size ≠ b := by omega
  have ha : a < L.length := by omega
  have wi7 : IntKind.i64.wrap ((a : Int)) = (a : Int) := IntWalk.i64_in _ (by omega)
  have zi7 : (0 : Int) ≤ (a : Int) := by omega
  have li7 : (a : Int) < (L.length : Int) := by omega
  have ti7 : ((a : Int)).toNat = a := by omega
  have wa : IntKind.i64.wrap ((a : Int) + 1) = (a : Int) + 1 := IntWalk.i64_in _ (by omega)
  have hae : (a : Int) < (e : Int) := by omega
  have HC := Lib.hid hcell
  rw [hf] at x0
  have x0 : W.cell? ⟨b, o + a, none⟩ = some (.int .u8 (128 + 2)) := x0
  simp only [Int.reduceAdd] at x0
  clear hcell hA hf
  have kk : bits .and .i64 (128 + 2) 15 = 2 := by decide
  simp only [Int.reduceAdd] at kk
  have h5' : 2 ≤ (e : Int) - ((a : Int) + 1) := by omega
  have wd : IntKind.i64.wrap ((e : Int) - ((a : Int) + 1)) = (e : Int) - ((a : Int) + 1) := IntWalk.i64_in _ (by omega)
  have S0 : ∀ nq, LnQ W w0.heap.size (.slice (some ⟨b, o, none⟩) L.length cp) q L a 2 cnt (.int .i64 0) (.int .i64 0) ((W.drewN nq).setCell ⟨w0.heap.size, 1, none⟩ (.int .i64 ((a : Int) + 1))) := fun nq =>
    ⟨0, by omega, rfl, rfl, Gb.step1 (Ext.drewN_ _ _) _, by rw [show ((a + 1 + 0 : Nat) : Int) = (a : Int) + 1 by omega]; exact HR.out.step1 (Ext.drewN_ _ _) _⟩
  have S0' := Lib.hid S0
  clear S0
  go_enter Tryz.func179, Tryz.ntmps179
  go_wp2_with (go_quiet (fail))
  go_loopw [10, 62] (fun n i wr => LnQ W w0.heap.size (.slice (some ⟨b, o, none⟩) L.length cp) q L a 2 cnt n i wr) (fun _ i _ => 2 - (intOf i).toNat)
  case atStart => exact S0'.out _
  case round =>
    obtain ⟨j, hj, rfl, rfl, gw, rw_⟩ := hrel
    obtain ⟨q3, q4⟩ := num_lt4 (L.drop (a + 1)) (j := j) (by omega)
    by_cases hlt : j < 2
    · have HS := Lib.hid (num_step (l := L.drop (a + 1)) (k := j) (by omega))
      rw [byteI_drop] at HS
      obtain ⟨p, hp⟩ : ∃ p, p = a + 1 + j := ⟨_, rfl⟩
      rw [← hp] at rw_ HS
      have belr := Gb.below bel gw (Nat.le_refl _)
      have x1 := (belr.cell (p := ⟨b, o + p, none⟩) hbl).trans (HC.out p (by omega))
      obtain ⟨c0, c1, c2, c3, f1, f3⟩ := rw_.cells
      have hgl := rw_.lt
      have HR1 := Lib.hid rw_
      have r0 := byteI_lo L p
      have r1 := byteI_hi L p
      have HO := or_low q3 (by omega) r0 r1
      have HP := Lib.hid hp
      have hpl : p < L.length := by omega
      clear rw_ c2 c3 f3 hp
      have wi8 : IntKind.i64.wrap ((p : Int)) = (p : Int) := IntWalk.i64_in _ (by omega)
      have zi8 : (0 : Int) ≤ (p : Int) := by omega
      have li8 : (p : Int) < (L.length : Int) := by omega
      have ti8 : ((p : Int)).toNat = p := by omega
      have wb : IntKind.i64.wrap ((p : Int) + 1) = (p : Int) + 1 := IntWalk.i64_in _ (by omega)
      generalize num ((L.drop (a + 1)).take j) = m at *
      go_wp2_with (go_quiet (fail))
      go_roundw
      case rel => exact ⟨j + 1, by omega, by go_num, by rw [HS.out], gw.tr (Gb.step1 (Ext.drewN_ _ _) _), by rw [show ((a + 1 + (j + 1) : Nat) : Int) = (p : Int) + 1 by have := HP.out; omega]; exact HR1.out.step1 (Ext.drewN_ _ _) _⟩
      case measure => simp [intOf]; omega
    · obtain rfl : j = 2 := by omega
      obtain ⟨c0, c1, c2, c3, f1, f3⟩ := rw_.cells
      have hgl := rw_.lt
      have HR1 := Lib.hid rw_
      clear rw_ c1 f1 f3 c3
      generalize num ((L.drop (a + 1)).take 2) = m at *
      cases q with
      | false =>
        have HN := Lib.hid (HT'.out.trans (if_neg (fun h => absurd h.1 (by decide))))
        clear HT'
        go_wp2_with (go_quiet (fail))
        go_ret2
        exact lnQ_yes HN.out rfl gw HR1.out
      | true =>
      by_cases hm : m < 128
      · have HN := Lib.hid (HT'.out.trans (if_pos ⟨rfl, .inl hm⟩))
        clear HT'
        go_wp2_with (go_quiet (fail))
        go_ret2
        exact lnQ_no HN.out gw
      · by_cases hz : m / 256 ^ (2 - 1) = 0
        · have HN := Lib.hid (HT'.out.trans (if_pos ⟨rfl, .inr hz⟩))
          have hz' : m / 256 ^ (2 - 1) = 0 := hz
          simp only [Nat.reduceSub, Int.reducePow] at hz'
          clear HT' hz
          first
            | (exfalso; omega)
            | (go_wp2_with (go_quiet (fail))
               go_ret2
               exact lnQ_no HN.out gw)
        · have HN := Lib.hid (HT'.out.trans (if_neg (fun h => h.2.elim hm hz)))
          have hz' : ¬ m / 256 ^ (2 - 1) = 0 := hz
          simp only [Nat.reduceSub, Int.reducePow] at hz'
          clear HT' hz
          go_wp2_with (go_quiet (fail))
          go_ret2
          exact lnQ_yes HN.out rfl gw HR1.out
set_option maxHeartbeats 4000000 in
theorem rlengthq_3 {w0 W : World} {bs : Value} {q c op : Bool} {L : List UInt8} {a e : Nat} {cnt : Int} (hb : Rd w0 bs (bvs L)) (bel : Below w0.heap.size w0 W) (hr : RAq W w0.heap.size bs q (a : Int) cnt) (he : e ≤ L.length) (hl : L.length ≤ 4096) (hop : op = (c && !q))
    (hf : byteI L a = 128 + 3) (hfit : a + 1 + 3 ≤ e) :
    Calls Tryz.prog 179 #[.pointer (some ⟨w0.heap.size, 0, none⟩), .int .i64 (e : Int), .bool op] W (TagQ W w0.heap.size bs q a cnt (lenX q c ((L.take e).drop a))) := by
  have HT := lenX_win (q := q) (c := c) (a := a) he
  rw [if_neg (by omega), hf, if_neg (by decide), if_neg (by decide), if_neg (by decide), show ((128 : Int) + 3 - 128).toNat = 3 from rfl, if_neg (by omega)] at HT
  have hld : (L.drop (a + 1)).length ≥ 3 := by rw [List.length_drop]; omega
  have HT' := Lib.hid HT
  clear HT
  obtain ⟨A, n, cp, rfl, hn, hnc, hcm, hA⟩ := hb.bytes
  subst hn
  unfold maxLen at hcm
  obtain ⟨c0, c1, c2, c3, f1, f3⟩ := hr.cells
  have hgl := hr.lt
  have HR := Lib.hid hr
  clear hr c2 c3 f3 hb
  obtain ⟨b, o, rfl, hbl, hcell⟩ := hA (by omega)
  have x0 := (bel.cell (p := ⟨b, o + a, none⟩) hbl).trans (hcell a (by omega))
  have hne : b ≠ w0.heap.size := by omega
  have hne' : w0.heap.size ≠ b := by omega
  have ha : a < L.length := by omega
  have wi9 : IntKind.i64.wrap ((a : Int)) = (a : Int) := IntWalk.i64_in _ (by omega)
  have zi9 : (0 : Int) ≤ (a : Int) := by omega
  have li9 : (a : Int) < (L.length : Int) := by omega
  have ti9 : ((a : Int)).toNat = a := by omega
  have wa : IntKind.i64.wrap ((a : Int) + 1) = (a : Int) + 1 := IntWalk.i64_in _ (by omega)
  have hae : (a : Int) < (e : Int) := by omega
  have HC := Lib.hid hcell
  rw [hf] at x0
  have x0 : W.cell? ⟨b, o + a, none⟩ = some (.int .u8 (128 + 3)) := x0
  simp only [Int.reduceAdd] at x0
  clear hcell hA hf
  have kk : bits .and .i64 (128 + 3) 15 = 3 := by decide
  simp only [Int.reduceAdd] at kk
  have h5' : 3 ≤ (e : Int) - ((a : Int) + 1) := by omega
  have wd : IntKind.i64.wrap ((e : Int) - ((a : Int) + 1)) = (e : Int) - ((a : Int) + 1) := IntWalk.i64_in _ (by omega)
  have S0 : ∀ nq, LnQ W w0.heap.size (.slice (some ⟨b, o, none⟩) L.length cp) q L a 3 cnt (.int .i64 0) (.int .i64 0) ((W.drewN nq).setCell ⟨w0.heap.size, 1, none⟩ (.int .i64 ((a : Int) + 1))) := fun nq =>
    ⟨0, by omega, rfl, rfl, Gb.step1 (Ext.drewN_ _ _) _, by rw [show ((a + 1 + 0 : Nat) : Int) = (a : Int) + 1 by omega]; exact HR.out.step1 (Ext.drewN_ _ _) _⟩
  have S0' := Lib.hid S0
  clear S0
  go_enter Tryz.func179, Tryz.ntmps179
  go_wp2_with (go_quiet (fail))
  go_loopw [10, 62] (fun n i wr => LnQ W w0.heap.size (.slice (some ⟨b, o, none⟩) L.length cp) q L a 3 cnt n i wr) (fun _ i _ => 3 - (intOf i).toNat)
  case atStart => exact S0'.out _
  case round =>
    obtain ⟨j, hj, rfl, rfl, gw, rw_⟩ := hrel
    obtain ⟨q3, q4⟩ := num_lt4 (L.drop (a + 1)) (j := j) (by omega)
    by_cases hlt : j < 3
    · have HS := Lib.hid (num_step (l := L.drop (a + 1)) (k := j) (by omega))
      rw [byteI_drop] at HS
      obtain ⟨p, hp⟩ : ∃ p, p = a + 1 + j := ⟨_, rfl⟩
      rw [← hp] at rw_ HS
      have belr := Gb.below bel gw (Nat.le_refl _)
      have x1 := (belr.cell (p := ⟨b, o + p, none⟩) hbl).trans (HC.out p (by omega))
      obtain ⟨c0, c1, c2, c3, f1, f3⟩ := rw_.cells
      have hgl := rw_.lt
      have HR1 := Lib.hid rw_
      have r0 := byteI_lo L p
      have r1 := byteI_hi L p
      have HO := or_low q3 (by omega) r0 r1
      have HP := Lib.hid hp
      have hpl : p < L.length := by omega
      clear rw_ c2 c3 f3 hp
      have wi10 : IntKind.i64.wrap ((p : Int)) = (p : Int) := IntWalk.i64_in _ (by omega)
      have zi10 : (0 : Int) ≤ (p : Int) := by omega
      have li10 : (p : Int) < (L.length : Int) := by omega
      have ti10 : ((p : Int)).toNat = p := by omega
      have wb : IntKind.i64.wrap ((p : Int) + 1) = (p : Int) + 1 := IntWalk.i64_in _ (by omega)
      generalize num ((L.drop (a + 1)).take j) = m at *
      go_wp2_with (go_quiet (fail))
      go_roundw
      case rel => exact ⟨j + 1, by omega, by go_num, by rw [HS.out], gw.tr (Gb.step1 (Ext.drewN_ _ _) _), by rw [show ((a + 1 + (j + 1) : Nat) : Int) = (p : Int) + 1 by have := HP.out; omega]; exact HR1.out.step1 (Ext.drewN_ _ _) _⟩
      case measure => simp [intOf]; omega
    · obtain rfl : j = 3 := by omega
      obtain ⟨c0, c1, c2, c3, f1, f3⟩ := rw_.cells
      have hgl := rw_.lt
      have HR1 := Lib.hid rw_
      clear rw_ c1 f1 f3 c3
      generalize num ((L.drop (a + 1)).take 3) = m at *
      cases q with
      | false =>
        have HN := Lib.hid (HT'.out.trans (if_neg (fun h => absurd h.1 (by decide))))
        clear HT'
        go_wp2_with (go_quiet (fail))
        go_ret2
        exact lnQ_yes HN.out rfl gw HR1.out
      | true =>
      by_cases hm : m < 128
      · have HN := Lib.hid (HT'.out.trans (if_pos ⟨rfl, .inl hm⟩))
        clear HT'
        go_wp2_with (go_quiet (fail))
        go_ret2
        exact lnQ_no HN.out gw
      · by_cases hz : m / 256 ^ (3 - 1) = 0
        · have HN := Lib.hid (HT'.out.trans (if_pos ⟨rfl, .inr hz⟩))
          have hz' : m / 256 ^ (3 - 1) = 0 := hz
          simp only [Nat.reduceSub, Int.reducePow] at hz'
          clear HT' hz
          first
            | (exfalso; omega)
            | (go_wp2_with (go_quiet (fail))
               go_ret2
               exact lnQ_no HN.out gw)
        · have HN := Lib.hid (HT'.out.trans (if_neg (fun h => h.2.elim hm hz)))
          have hz' : ¬ m / 256 ^ (3 - 1) = 0 := hz
          simp only [Nat.reduceSub, Int.reducePow] at hz'
          clear HT' hz
          go_wp2_with (go_quiet (fail))
          go_ret2
          exact lnQ_yes HN.out rfl gw HR1.out
set_option maxHeartbeats 4000000 in
theorem rlengthq_4 {w0 W : World} {bs : Value} {q c op : Bool} {L : List UInt8} {a e : Nat} {cnt : Int} (hb : Rd w0 bs (bvs L)) (bel : Below w0.heap.size w0 W) (hr : RAq W w0.heap.size bs q (a : Int) cnt) (he : e ≤ L.length) (hl : L.length ≤ 4096) (hop : op = (c && !q))
    (hf : byteI L a = 128 + 4) (hfit : a + 1 + 4 ≤ e) :
    Calls Tryz.prog 179 #[.pointer (some ⟨w0.heap.size, 0, none⟩), .int .i64 (e : Int), .bool op] W (TagQ W w0.heap.size bs q a cnt (lenX q c ((L.take e).drop a))) := by
  have HT := lenX_win (q := q) (c := c) (a := a) he
  rw [if_neg (by omega), hf, if_neg (by decide), if_neg (by decide), if_neg (by decide), show ((128 : Int) + 4 - 128).toNat = 4 from rfl, if_neg (by omega)] at HT
  have hld : (L.drop (a + 1)).length ≥ 4 := by rw [List.length_drop]; omega
  have HT' := Lib.hid HT
  clear HT
  obtain ⟨A, n, cp, rfl, hn, hnc, hcm, hA⟩ := hb.bytes
  subst hn
  unfold maxLen at hcm
  obtain ⟨c0, c1, c2, c3, f1, f3⟩ := hr.cells
  have hgl := hr.lt
  have HR := Lib.hid hr
  clear hr c2 c3 f3 hb
  obtain ⟨b, o, rfl, hbl, hcell⟩ := hA (by omega)
  have x0 := (bel.cell (p := ⟨b, o + a, none⟩) hbl).trans (hcell a (by omega))
  have hne : b ≠ w0.heap.size := by omega
  have hne' : w0.heap.size ≠ b := by omega
  have ha : a < L.length := by omega
  have wi11 : IntKind.i64.wrap ((a : Int)) = (a : Int) := IntWalk.i64_in _ (by omega)
  have zi11 : (0 : Int) ≤ (a : Int) := by omega
  have li11 : (a : Int) < (L.length : Int) := by omega
  have ti11 : ((a : Int)).toNat = a := by omega
  have wa : IntKind.i64.wrap ((a : Int) + 1) = (a : Int) + 1 := IntWalk.i64_in _ (by omega)
  have hae : (a : Int) < (e : Int) := by omega
  have HC := Lib.hid hcell
  rw [hf] at x0
  have x0 : W.cell? ⟨b, o + a, none⟩ = some (.int .u8 (128 + 4)) := x0
  simp only [Int.reduceAdd] at x0
  clear hcell hA hf
  have kk : bits .and .i64 (128 + 4) 15 = 4 := by decide
  simp only [Int.reduceAdd] at kk
  have h5' : 4 ≤ (e : Int) - ((a : Int) + 1) := by omega
  have wd : IntKind.i64.wrap ((e : Int) - ((a : Int) + 1)) = (e : Int) - ((a : Int) + 1) := IntWalk.i64_in _ (by omega)
  have S0 : ∀ nq, LnQ W w0.heap.size (.slice (some ⟨b, o, none⟩) L.length cp) q L a 4 cnt (.int .i64 0) (.int .i64 0) ((W.drewN nq).setCell ⟨w0.heap.size, 1, none⟩ (.int .i64 ((a : Int) + 1))) := fun nq =>
    ⟨0, by omega, rfl, rfl, Gb.step1 (Ext.drewN_ _ _) _, by rw [show ((a + 1 + 0 : Nat) : Int) = (a : Int) + 1 by omega]; exact HR.out.step1 (Ext.drewN_ _ _) _⟩
  have S0' := Lib.hid S0
  clear S0
  go_enter Tryz.func179, Tryz.ntmps179
  go_wp2_with (go_quiet (fail))
  go_loopw [10, 62] (fun n i wr => LnQ W w0.heap.size (.slice (some ⟨b, o, none⟩) L.length cp) q L a 4 cnt n i wr) (fun _ i _ => 4 - (intOf i).toNat)
  case atStart => exact S0'.out _
  case round =>
    obtain ⟨j, hj, rfl, rfl, gw, rw_⟩ := hrel
    obtain ⟨q3, q4⟩ := num_lt4 (L.drop (a + 1)) (j := j) (by omega)
    by_cases hlt : j < 4
    · have HS := Lib.hid (num_step (l := L.drop (a + 1)) (k := j) (by omega))
      rw [byteI_drop] at HS
      obtain ⟨p, hp⟩ : ∃ p, p = a + 1 + j := ⟨_, rfl⟩
      rw [← hp] at rw_ HS
      have belr := Gb.below bel gw (Nat.le_refl _)
      have x1 := (belr.cell (p := ⟨b, o + p, none⟩) hbl).trans (HC.out p (by omega))
      obtain ⟨c0, c1, c2, c3, f1, f3⟩ := rw_.cells
      have hgl := rw_.lt
      have HR1 := Lib.hid rw_
      have r0 := byteI_lo L p
      have r1 := byteI_hi L p
      have HO := or_low q3 (by omega) r0 r1
      have HP := Lib.hid hp
      have hpl : p < L.length := by omega
      clear rw_ c2 c3 f3 hp
      have wi12 : IntKind.i64.wrap ((p : Int)) = (p : Int) := IntWalk.i64_in _ (by omega)
      have zi12 : (0 : Int) ≤ (p : Int) := by omega
      have li12 : (p : Int) < (L.length : Int) := by omega
      have ti12 : ((p : Int)).toNat = p := by omega
      have wb : IntKind.i64.wrap ((p : Int) + 1) = (p : Int) + 1 := IntWalk.i64_in _ (by omega)
      generalize num ((L.drop (a + 1)).take j) = m at *
      go_wp2_with (go_quiet (fail))
      go_roundw
      case rel => exact ⟨j + 1, by omega, by go_num, by rw [HS.out], gw.tr (Gb.step1 (Ext.drewN_ _ _) _), by rw [show ((a + 1 + (j + 1) : Nat) : Int) = (p : Int) + 1 by have := HP.out; omega]; exact HR1.out.step1 (Ext.drewN_ _ _) _⟩
      case measure => simp [intOf]; omega
    · obtain rfl : j = 4 := by omega
      obtain ⟨c0, c1, c2, c3, f1, f3⟩ := rw_.cells
      have hgl := rw_.lt
      have HR1 := Lib.hid rw_
      clear rw_ c1 f1 f3 c3
      generalize num ((L.drop (a + 1)).take 4) = m at *
      cases q with
      | false =>
        have HN := Lib.hid (HT'.out.trans (if_neg (fun h => absurd h.1 (by decide))))
        clear HT'
        go_wp2_with (go_quiet (fail))
        go_ret2
        exact lnQ_yes HN.out rfl gw HR1.out
      | true =>
      by_cases hm : m < 128
      · have HN := Lib.hid (HT'.out.trans (if_pos ⟨rfl, .inl hm⟩))
        clear HT'
        go_wp2_with (go_quiet (fail))
        go_ret2
        exact lnQ_no HN.out gw
      · by_cases hz : m / 256 ^ (4 - 1) = 0
        · have HN := Lib.hid (HT'.out.trans (if_pos ⟨rfl, .inr hz⟩))
          have hz' : m / 256 ^ (4 - 1) = 0 := hz
          simp only [Nat.reduceSub, Int.reducePow] at hz'
          clear HT' hz
          first
            | (exfalso; omega)
            | (go_wp2_with (go_quiet (fail))
               go_ret2
               exact lnQ_no HN.out gw)
        · have HN := Lib.hid (HT'.out.trans (if_neg (fun h => h.2.elim hm hz)))
          have hz' : ¬ m / 256 ^ (4 - 1) = 0 := hz
          simp only [Nat.reduceSub, Int.reducePow] at hz'
          clear HT' hz
          go_wp2_with (go_quiet (fail))
          go_ret2
          exact lnQ_yes HN.out rfl gw HR1.out
theorem rlengthq_any {w0 W : World} {bs : Value} {q c op : Bool} {L : List UInt8} {a e : Nat} {cnt : Int} (hb : Rd w0 bs (bvs L)) (bel : Below w0.heap.size w0 W) (hr : RAq W w0.heap.size bs q (a : Int) cnt) (he : e ≤ L.length) (hl : L.length ≤ 4096) (hop : op = (c && !q)) :
    Calls Tryz.prog 179 #[.pointer (some ⟨w0.heap.size, 0, none⟩), .int .i64 (e : Int), .bool op] W (TagQ W w0.heap.size bs q a cnt (lenX q c ((L.take e).drop a))) := by
  by_cases h : e ≤ a ∨ byteI L a < 128 ∨ 132 < byteI L a ∨ byteI L a = 128 ∨ e < a + 1 + (byteI L a - 128).toNat
  · exact rlengthq_short hb bel hr he hl hop h
  · have hf : byteI L a = 128 + 1 ∨ byteI L a = 128 + 2 ∨ byteI L a = 128 + 3 ∨ byteI L a = 128 + 4 := by omega
    rcases hf with hf | hf | hf | hf
    · exact rlengthq_1 hb bel hr he hl hop hf (by rw [hf] at h; omega)
    · exact rlengthq_2 hb bel hr he hl hop hf (by rw [hf] at h; omega)
    · exact rlengthq_3 hb bel hr he hl hop hf (by rw [hf] at h; omega)
    · exact rlengthq_4 hb bel hr he hl hop hf (by rw [hf] at h; omega)
end Go.Proofs.YthbpdhanljpigaaGreatDoor
