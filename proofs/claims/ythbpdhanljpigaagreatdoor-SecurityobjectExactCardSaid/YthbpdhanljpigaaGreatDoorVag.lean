/- Parts B Wd1 Wd2 Tv Ap of the proof. -/
import Derived.Test.YthbpdhanljpigaaGreatDoorProg
import Derived.Test.YthbpdhanljpigaaGreatDoorVaa
import Derived.Deep.QuietTactic
import Derived.BigQuiet
import Derived.WalkSpells
import Derived.Maps.AppendAt
namespace Go.Proofs.YthbpdhanljpigaaGreatDoor
open Go.RowKit
set_option linter.unusedVariables false
theorem elemB : Elem Tryz.prog 26 5 1 := by
  have h : (Tryz.prog.info? 5).map (fun i => (i.zero, i.size, i.bytes)) = some (some (.int .u8 0), 1, 1) := by kernel_rfl
  obtain ⟨i, h1, h2, h3, h4⟩ := info_parts h
  exact ⟨i, _, Tryz.underlying26, h1, h2, h3, h4, rfl⟩

theorem maxLen_47 {n : Nat} (h : n ≤ 140737488355328) : n ≤ maxLen := by unfold maxLen; omega

section
variable {ops : Array Oper} {rest : List Oper} {o : Oper} {a : Act} {Q : Exit → Act → World → Prop} {w w0 : World}
/-- out = append(out, src...), bytes. -/
theorem appB {B : Nat} {v src : Value} {xs ys : List UInt8} (hown : Own w B 5 v (bvs xs)) (hr : Rd w src (bvs ys)) (hbel : Below B w0 w) (hb : xs.length + ys.length ≤ 140737488355328) (hB : B ≤ w.heap.size)
    {s x : Operand} (hgd : o.guard = none) (ho : o.op = .call { callee := .builtin .append, args := #[s, x], argTypes := #[26, 26] }) (hs : a.eval s = v) (hx : a.eval x = src)
    (h : ∀ A n c w', Hid (n = xs.length + ys.length) → Own w' B 5 (.slice A n c) (bvs (xs ++ ys)) → Below B w0 w' → w.grownBy w' (rowOf v) → wpList Tryz.prog ops Q rest (a.put o.dst (.slice A n c)) w') : wpList Tryz.prog ops Q (o :: rest) a w :=
  wpList_app elemB hown hr (bvs_one _) hbel (by simpa [bvs_length] using hb) (maxLen_47 (by simpa [bvs_length] using hb)) hB hgd ho hs hx (by
    intro A c w' h1 h2 h3
    simp only [bvs_length, bvs_append] at h1 ⊢
    exact h A _ c w' (show _ = _ from rfl) h1 h2 h3)
/-- out = append([]byte(nil), src...), append([]byte{}, src...). -/
theorem appN {B : Nat} {A0 : Option Addr} {src : Value} {ys : List UInt8} (hr : Rd w src (bvs ys)) (hbel : Below B w0 w) (hb : ys.length ≤ 140737488355328) (hB : B ≤ w.heap.size)
    {s x : Operand} (hgd : o.guard = none) (ho : o.op = .call { callee := .builtin .append, args := #[s, x], argTypes := #[26, 26] }) (hs : a.eval s = .slice A0 0 0) (hx : a.eval x = src)
    (h : ∀ A n c w', Hid (n = ys.length) → Own w' B 5 (.slice A n c) (bvs ys) → Below B w0 w' → w.grownBy w' none → wpList Tryz.prog ops Q rest (a.put o.dst (.slice A n c)) w') : wpList Tryz.prog ops Q (o :: rest) a w :=
  appB (xs := []) (Own.empty w B _ A0) hr hbel (by simpa using hb) hB hgd ho hs hx (by
    intro A n c w' hn h1 h2 h3
    simp only [List.nil_append] at h1
    refine h A n c w' (show _ = _ by have := hn.out; simpa using this) h1 h2 ?_
    cases A0 <;> exact h3)
end
theorem nilB (w : World) (B : Nat) : Own w B 5 (.slice none 0 0) (bvs []) := Own.nil_ _ _ _
/-- The slice of one byte that append(out, b) makes. -/
theorem Rd.one (w : World) (x : UInt8) : Rd (w.alloc (.cells #[.int .u8 (x.toNat : Int)] 5)) (.slice (some ⟨w.heap.size, 0, none⟩) 1 1) (bvs [x]) := Rd.lit w _ _ 1 rfl (by unfold maxLen; omega)
theorem Rd.oneZ (w : World) (z : Int) : Rd (w.alloc (.cells #[.int .u8 (z % 256)] 5)) (.slice (some ⟨w.heap.size, 0, none⟩) 1 1) (bvs [u8 z]) := by rw [← u8_val]; exact Rd.one w _
end Go.Proofs.YthbpdhanljpigaaGreatDoor
namespace Go.Proofs.YthbpdhanljpigaaGreatDoor
open Go.RowKit
set_option linter.unusedVariables false
theorem bytesOf_any (x : Int) (w : World) :
    Calls Tryz.prog 101 #[.int .u32 x] w (RetB w (be4 x)) := by
  go_enter Tryz.func101, Tryz.ntmps101
  go_wp2
  go_ret
  refine ⟨_, _, _, rfl, (show _ = _ from rfl), ?_, (Below.refl _ _).alloc (Nat.le_refl _) _⟩
  rw [bvs_be4]
  exact Own.lit w _ _ 4 rfl (by unfold maxLen; omega)

theorem four_any (x : Int) (w : World) :
    Calls Tryz.prog 110 #[.int .i64 x] w (RetB w (be4 x)) := by
  go_enter Tryz.func110, Tryz.ntmps110
  go_wp2
  go_ret
  refine ⟨_, _, _, rfl, (show _ = _ from rfl), ?_, (Below.refl _ _).alloc (Nat.le_refl _) _⟩
  rw [bvs_be4]
  exact Own.lit w _ _ 4 rfl (by unfold maxLen; omega)

theorem same_any {a b : Value} {xs ys : List UInt8} (w : World) (ha : Rd w a (bvs xs)) (hb : Rd w b (bvs ys)) :
    Calls Tryz.prog 32 #[a, b] w (RetQ w (.bool (decide (xs = ys)))) := by
  obtain ⟨A, n1, c, rfl, hn1, hnc, hcm, hA⟩ := ha.bytes
  obtain ⟨A2, n2, c2, rfl, hn2, hnc2, hcm2, hB⟩ := hb.bytes
  subst hn1 hn2
  unfold maxLen at hcm hcm2
  by_cases hl : xs.length = ys.length
  · have hl1 : ((xs.length : Int) != (ys.length : Int)) = false := by simp [hl]
    have HL : Hid (xs.length = ys.length) := hl
    clear hl
    go_enter Tryz.func32, Tryz.ntmps32
    go_wp2
    go_loopw [5] (fun i wr => ∃ k : Nat, k ≤ xs.length ∧ i = .int .i64 k ∧ xs.take k = ys.take k ∧ ∃ n, wr = w.drewN n) (fun i _ => xs.length - (intOf i).toNat)
    case atStart => exact ⟨0, Nat.zero_le _, rfl, rfl, 0, rfl⟩
    case round =>
      obtain ⟨k, hk, rfl, hpre, n, rfl⟩ := hrel
      by_cases hlt : k < xs.length
      · obtain ⟨b1, o1, rfl, _, hc1⟩ := hA (by omega)
        obtain ⟨b2, o2, rfl, _, hc2⟩ := hB (by have := HL.out; omega)
        have h2 : k < ys.length := by have := HL.out; omega
        have d1 := hc1 k hlt
        have d2 := hc2 k h2
        have e1 : (0 : Int) ≤ (k : Int) := by omega
        have e2 : (k : Int) < (xs.length : Int) := by omega
        have e3 : (k : Int) < (ys.length : Int) := by omega
        have HP := Lib.hid hpre
        clear hpre hc1 hc2 hA hB
        go_wp2
        go_quiet (fail)
        go_wp2
        · go_wp2
          go_ret
          refine ⟨?_, Below.drewN_ (Ext.drewN_ _ _) _⟩
          have hne : (byteI xs k != byteI ys k) = true := by assumption
          have : xs ≠ ys := by
            rintro rfl
            simp at hne
          simp [this]
        · have hne : (byteI xs k != byteI ys k) = false := by assumption
          have he : xs[k] = ys[k] := byteI_inj hlt h2 (by simpa using hne)
          go_roundw
          case rel => exact ⟨k + 1, by omega, by go_num, take_snoc_eq HP.out hlt h2 he, n + nq, by simp⟩
          case measure => simp [intOf]; omega
      · go_wp2
        go_ret
        refine ⟨?_, Ext.drewN_ _ _⟩
        have := take_all hpre (by omega) HL.out
        simp [this]
  · have hl1 : ((xs.length : Int) != (ys.length : Int)) = true := by simp; omega
    go_enter Tryz.func32, Tryz.ntmps32
    go_wp2
    go_ret
    refine ⟨?_, Below.refl _ _⟩
    have : xs ≠ ys := by
      rintro rfl
      exact hl rfl
    simp [this]

/-- A copy in new memory. -/
theorem clone_any {b : Value} {xs : List UInt8} (w : World) (hb : Rd w b (bvs xs)) (h47 : xs.length ≤ 140737488355328) :
    Calls Tryz.prog 48 #[b] w (RetB w xs) := by
  have hb0 := hb
  obtain ⟨A, n, c, rfl, hn, hnc, hcm, hA⟩ := hb.bytes
  subst hn
  have q := fun (w : World) (A : Option Addr) (n c : Nat) => Lib.run_eql_slice_nil (P := Tryz.prog) w 26 5 A n c 0 0 Tryz.underlying26
  cases A with
  | none =>
    have : xs = [] := by
      cases xs with
      | nil => rfl
      | cons x xs => obtain ⟨b, o, h, _, _⟩ := hA (by simp); cases h
    subst this
    clear hA hb0 hb
    go_enter Tryz.func48, Tryz.ntmps48
    go_wp2
    go_ret
    exact ⟨none, 0, 0, rfl, (show _ = _ from rfl), Own.nil_ _ _ _, Below.refl _ _⟩
  | some ad =>
    clear hA
    go_enter Tryz.func48, Tryz.ntmps48
    go_wp2_with (refine appN (B := w.heap.size) (hb0.ext ((Below.refl _ _).alloc (Nat.le_refl _) _)) ((Below.refl _ w).alloc (Nat.le_refl _) _) h47 (by simp) rfl rfl rfl rfl ?_; intro A1 n1 c1 w1 hn1 o1 b1 g1)
    go_ret
    exact ⟨_, _, _, rfl, hn1, o1, b1⟩

theorem join_any {a b : Value} {xs ys : List UInt8} (w : World) (ha : Rd w a (bvs xs)) (hb : Rd w b (bvs ys)) (h47 : xs.length + ys.length ≤ 140737488355328) :
    Calls Tryz.prog 109 #[a, b] w (RetB w (xs ++ ys)) := by
  have ha0 := ha
  have hb0 := hb
  obtain ⟨A, n, c, rfl, hn, hnc, hcm, hA⟩ := ha.bytes
  obtain ⟨A2, n2, c2, rfl, hn2, hnc2, hcm2, hB⟩ := hb.bytes
  subst hn hn2
  clear hA hB
  go_enter Tryz.func109, Tryz.ntmps109
  go_wp2_with (first
    | (refine appN ha0 (Below.refl _ w) (by omega) (Nat.le_refl _) rfl rfl rfl rfl ?_; intro A1 n1 c1 w1 hn1 o1 b1 g1)
    | (refine appB o1 (hb0.below b1) b1 h47 b1.size rfl rfl rfl rfl ?_; intro A2 n2 c2 w2 hn2 o2 b2 g2))
  go_ret
  exact ⟨_, _, _, rfl, (show _ = _ by rw [List.length_append]; exact hn2.out), o2, b2⟩
end Go.Proofs.YthbpdhanljpigaaGreatDoor
namespace Go.Proofs.YthbpdhanljpigaaGreatDoor
open Go.RowKit
set_option linter.unusedVariables false
theorem digpad_any {b : Value} {l : List UInt8} (w : World) (hb : Rd w b (bvs l)) (h47 : l.length ≤ 140737488353000) :
    Calls Tryz.prog 99 #[b] w (RetB w (pad l)) := by
  have hb0 := hb
  obtain ⟨A, n, c, rfl, hn, hnc, hcm, hA⟩ := hb.bytes
  subst hn
  clear hA
  go_enter Tryz.func99, Tryz.ntmps99
  go_wp2_with (first
    | (go_at_call 48; refine (clone_any _ hb0 (by omega)).mono ?_; rintro e w1 ⟨A1, n1, c1, rfl, hn1, o1, b1⟩)
    | (refine appB (o1.ext (Below.alloc (Below.refl _ _) (Nat.le_refl _) _)) (Rd.one w1 128) (b1.alloc b1.size _) (by simp; omega) (by have := b1.size; simp; omega) rfl rfl rfl rfl ?_; intro A2 n2 c2 w2 hn2 o2 b2 g2))
  clear g2 o1 b1 hn1
  have hm8 : 8 * (l.length : Int) ≤ 1125899906842624 := by omega
  go_loopw [3] (fun v wr => ∃ k A n c, k ≤ zeros l.length ∧ n = l.length + 1 + k ∧ v = .slice A n c ∧ Own wr w.heap.size 5 (.slice A n c) (bvs (l ++ [128] ++ List.replicate k 0)) ∧ Below w.heap.size w wr)
    (fun v _ => l.length + 64 - lenV v)
  case atStart => exact ⟨0, A2, _, c2, Nat.zero_le _, by have := hn2.out; simpa using this, rfl, by simpa using o2, b2⟩
  case round =>
    obtain ⟨k, A3, n3, c3, hk, hn3, rfl, o3, b3⟩ := hrel
    have hz := zeros_lt l.length
    have hn3b : n3 ≤ l.length + 64 := by omega
    by_cases hlt : k = zeros l.length
    · have hm : ((n3 : Int) % 64 != 56) = false := by
        have := (zeros_hit hk).2 hlt
        simp; omega
      subst hlt
      have HN := Lib.hid hn3
      clear hn3 hn2 o2 b2
      obtain ⟨p, hp⟩ : ∃ p, p = l ++ [128] ++ List.replicate (zeros l.length) 0 := ⟨_, rfl⟩
      rw [← hp] at o3
      have HP := Lib.hid hp
      clear hp
      have hpl : p.length ≤ l.length + 64 := by rw [HP.out]; simp; omega
      go_wp2_with (first
        | (go_at_call 101; (with_reducible refine (bytesOf_any (8 * (l.length : Int) / 4294967296) _).mono ?_); rintro e w4 ⟨A4, n4, c4, rfl, hn4, o4, b4⟩)
        | (go_at_call 101; (with_reducible refine (bytesOf_any (8 * (l.length : Int) % 4294967296) _).mono ?_); rintro e w6 ⟨A6, n6, c6, rfl, hn6, o6, b6⟩)
        | (refine appB (o3.ext b4) o4.rd (b3.trans (b4.mono b3.size)) (by simp [be4]; omega) (by have := b3.size; have := b4.size; omega) rfl rfl rfl rfl ?_; intro A5 n5 c5 w5 hn5 o5 b5 g5)
        | (refine appB (o5.ext b6) o6.rd (b5.trans (b6.mono b5.size)) (by simp [be4]; omega) (by have := b5.size; have := b6.size; omega) rfl rfl rfl rfl ?_; intro A7 n7 c7 w7 hn7 o7 b7 g7))
      go_ret
      have e : pad l = p ++ be4 (8 * (l.length : Int) / 4294967296) ++ be4 (8 * (l.length : Int) % 4294967296) := by
        rw [List.append_assoc, be4_be8, HP.out]; rfl
      refine ⟨_, _, _, rfl, (show _ = _ by rw [hn7.out, e]; exact List.length_append.symm), ?_, b7⟩
      rw [e]; exact o7
    · have hm : ((n3 : Int) % 64 != 56) = true := by
        have := zeros_hit hk
        simp; omega
      have HN := Lib.hid hn3
      clear hn3
      go_wp2_with (refine appB (o3.ext (Below.alloc (Below.refl _ _) (Nat.le_refl _) _)) (Rd.one _ 0) (b3.alloc b3.size _) (by simp; omega) (by have := b3.size; simp; omega) rfl rfl rfl rfl ?_; intro A4 n4 c4 w4 hn4 o4 b4 g4)
      go_roundw
      case rel => exact ⟨k + 1, A4, _, c4, by omega, by have := hn4.out; simp at this; omega, rfl, by rw [← rep_snoc]; exact o4, b4⟩
      case measure => have := hn4.out; have := HN.out; simp at *; simp [lenV]; omega
end Go.Proofs.YthbpdhanljpigaaGreatDoor
namespace Go.Proofs.YthbpdhanljpigaaGreatDoor
open Go.RowKit
set_option linter.unusedVariables false
set_option maxRecDepth 100000
theorem i64_and_nat (a b : Nat) (ha : a < 9223372036854775808) (hb : b < 9223372036854775808) : bits .and .i64 (a : Int) (b : Int) = ((a &&& b : Nat) : Int) := by
  have hx : a &&& b < 2 ^ 63 := Nat.and_lt_two_pow a (by omega)
  have e : ∀ c : Nat, c < 9223372036854775808 → (BitVec.ofInt 64 (c : Int)).toNat = c := fun c hc => by
    rw [BitVec.ofInt_natCast, BitVec.toNat_ofNat]; exact Nat.mod_eq_of_lt (by omega)
  show IntKind.i64.wrap ((BitVec.ofInt 64 (a : Int) &&& BitVec.ofInt 64 (b : Int)).toNat : Int) = _
  rw [BitVec.toNat_and, e a ha, e b hb, IntKind.wrap_i64]
  omega
theorem and_31 {x : Int} (h0 : 0 ≤ x) (h1 : x < 65536) : bits .and .i64 x 31 = x % 32 := by
  obtain ⟨n, rfl⟩ := Int.eq_ofNat_of_zero_le h0
  have h := i64_and_nat n 31 (by omega) (by omega)
  rw [show (n &&& 31 : Nat) = n % 32 from Nat.and_two_pow_sub_one_eq_mod n 5] at h
  exact h
theorem and_255 {x : Int} (h0 : 0 ≤ x) (h1 : x < 65536) : bits .and .i64 x 255 = x % 256 := by
  obtain ⟨n, rfl⟩ := Int.eq_ofNat_of_zero_le h0
  have h := i64_and_nat n 255 (by omega) (by omega)
  rw [show (n &&& 255 : Nat) = n % 256 from Nat.and_two_pow_sub_one_eq_mod n 8] at h
  exact h
theorem and_32 {x : Int} (h0 : 0 ≤ x) (h1 : x < 65536) : (bits .and .i64 x 32 != 0) = (x / 32 % 2 == 1) := by
  obtain ⟨n, rfl⟩ := Int.eq_ofNat_of_zero_le h0
  have h := i64_and_nat n 32 (by omega) (by omega)
  have e : (n &&& 32 : Nat) = n / 32 % 2 * 32 := by
    have e1 : n &&& 32 = (n % 64) &&& 32 := by rw [← Nat.and_two_pow_sub_one_eq_mod n 6, Nat.and_assoc]; rfl
    have key : ∀ r, r < 64 → r &&& 32 = r / 32 % 2 * 32 := by decide
    rw [e1, key _ (Nat.mod_lt _ (by omega))]
    omega
  rw [e] at h
  rw [show bits .and .i64 (n : Int) 32 = ((n / 32 % 2 * 32 : Nat) : Int) from h]
  rcases Nat.mod_two_eq_zero_or_one (n / 32) with q | q
  · rw [q]
    have : (n : Int) / 32 % 2 = 0 := by omega
    rw [this]; rfl
  · rw [q]
    have : (n : Int) / 32 % 2 = 1 := by omega
    rw [this]; rfl
def longT (x : Int) : Bool := x % 32 == 31
def validT (x : Int) : Bool := if x < 256 then decide (0 < x) && !longT x else longT (x / 256) && (decide (1 ≤ x % 256) && decide (x % 256 ≤ 127))
def consT (x : Int) : Bool := validT x && ((if 255 < x then x / 256 else x) / 32 % 2 == 1)
theorem long_any (x : Int) (w : World) (x0 : 0 ≤ x) (x1 : x < 65536) : Calls Tryz.prog 176 #[.int .i64 x] w fun e w' => e = .returned (.bool (longT x)) ∧ w = w' := by
  have h := and_31 x0 x1
  go_enter Tryz.func176, Tryz.ntmps176
  go_wp2
  go_ret
  exact ⟨rfl, rfl⟩
set_option maxHeartbeats 1000000 in
theorem valid_any (x : Int) (w : World) (x0 : 0 ≤ x) (x1 : x < 65536) : Calls Tryz.prog 153 #[.int .i64 x] w fun e w' => e = .returned (.bool (validT x)) ∧ w = w' := by
  by_cases h : x < 256
  · by_cases h0 : 0 < x
    · go_enter Tryz.func153, Tryz.ntmps153
      go_wp2_with fail
      refine (long_any _ _ x0 x1).mono ?_
      rintro e w' ⟨rfl, rfl⟩
      go_wp2_with fail
      go_ret
      exact ⟨by simp [validT, h, h0], rfl⟩
    · have hV : validT x = false := by simp [validT, h, h0]
      rw [hV]
      clear hV
      go_enter Tryz.func153, Tryz.ntmps153
      go_wp2
      go_ret
      exact ⟨rfl, rfl⟩
  · have h8 := and_255 x0 x1
    have d0 : 0 ≤ x / 256 := by omega
    have d1 : x / 256 < 256 := by omega
    have hL := fun w => long_any (x / 256) w d0 (by omega)
    have hV : validT x = (longT (x / 256) && (decide (1 ≤ x % 256) && decide (x % 256 ≤ 127))) := if_neg h
    rw [hV]
    cases hl : longT (x / 256) with
    | false =>
      go_enter Tryz.func153, Tryz.ntmps153
      go_wp2_with fail
      refine (hL _).mono ?_
      rintro e w' ⟨rfl, rfl⟩
      rw [hl]
      go_wp2_with fail
      go_ret
      exact ⟨rfl, rfl⟩
    | true =>
      by_cases h1 : 1 ≤ x % 256
      · go_enter Tryz.func153, Tryz.ntmps153
        go_wp2_with fail
        refine (hL _).mono ?_
        rintro e w' ⟨rfl, rfl⟩
        rw [hl]
        go_wp2_with fail
        go_ret
        exact ⟨by simp [h1], rfl⟩
      · have HF := Lib.hid (show (decide (1 ≤ x % 256) && decide (x % 256 ≤ 127)) = false by simp [h1])
        go_enter Tryz.func153, Tryz.ntmps153
        go_wp2_with fail
        refine (hL _).mono ?_
        rintro e w' ⟨rfl, rfl⟩
        rw [hl]
        go_wp2_with fail
        go_ret
        exact ⟨by rw [HF.out]; rfl, rfl⟩
theorem cons_any (x : Int) (w : World) (x0 : 0 ≤ x) (x1 : x < 65536) : Calls Tryz.prog 152 #[.int .i64 x] w fun e w' => e = .returned (.bool (consT x)) ∧ w = w' := by
  cases hv : validT x with
  | false =>
    go_enter Tryz.func152, Tryz.ntmps152
    go_wp2_with fail
    refine (valid_any _ _ x0 x1).mono ?_
    rintro e w' ⟨rfl, rfl⟩
    rw [hv]
    go_wp2_with fail
    go_ret
    exact ⟨by simp [consT, hv], rfl⟩
  | true =>
    by_cases h : 255 < x
    · have HC := Lib.hid (show consT x = (x / 256 / 32 % 2 == 1) by simp [consT, hv, h])
      have h3 := and_32 (x := x / 256) (by omega) (by omega)
      go_enter Tryz.func152, Tryz.ntmps152
      go_wp2_with fail
      refine (valid_any _ _ x0 x1).mono ?_
      rintro e w' ⟨rfl, rfl⟩
      rw [hv]
      go_wp2_with fail
      go_ret
      exact ⟨by rw [HC.out]; rfl, rfl⟩
    · have HC := Lib.hid (show consT x = (x / 32 % 2 == 1) by simp [consT, hv, h])
      have h3 := and_32 x0 x1
      go_enter Tryz.func152, Tryz.ntmps152
      go_wp2_with fail
      refine (valid_any _ _ x0 x1).mono ?_
      rintro e w' ⟨rfl, rfl⟩
      rw [hv]
      go_wp2_with fail
      go_ret
      exact ⟨by rw [HC.out]; rfl, rfl⟩
set_option maxHeartbeats 1000000 in
theorem refvalid_any (x : Int) (w : World) (x0 : 0 ≤ x) (x1 : x < 65536) : Calls Tryz.prog 155 #[.int .i64 x] w fun e w' => e = .returned (.bool (validT x)) ∧ w = w' := by
  by_cases h : x < 256
  · by_cases h0 : 1 ≤ x
    · have hd : decide (0 < x) = true := decide_eq_true (by omega)
      have HV := Lib.hid (show validT x = (x % 32 != 31) from (if_pos h).trans (by rw [hd]; rfl))
      clear hd
      go_enter Tryz.func155, Tryz.ntmps155
      go_wp2
      go_ret
      exact ⟨by rw [HV.out]; rfl, rfl⟩
    · obtain rfl : x = 0 := by omega
      go_enter Tryz.func155, Tryz.ntmps155
      go_wp2
      go_ret
      exact ⟨rfl, rfl⟩
  · have hV : validT x = (longT (x / 256) && (decide (1 ≤ x % 256) && decide (x % 256 ≤ 127))) := if_neg h
    rw [hV]
    cases hl : (x / 256 % 32 == 31) with
    | false =>
      go_enter Tryz.func155, Tryz.ntmps155
      go_wp2
      go_ret
      exact ⟨by simp [longT, hl], rfl⟩
    | true =>
      by_cases h1 : 1 ≤ x % 256
      · go_enter Tryz.func155, Tryz.ntmps155
        go_wp2
        go_ret
        exact ⟨by simp [longT, hl], rfl⟩
      · have HF := Lib.hid (show (longT (x / 256) && (decide (1 ≤ x % 256) && decide (x % 256 ≤ 127))) = false by simp [h1])
        go_enter Tryz.func155, Tryz.ntmps155
        go_wp2
        go_ret
        exact ⟨by rw [HF.out]; rfl, rfl⟩
theorem refcons_any (x : Int) (w : World) (x0 : 0 ≤ x) (x1 : x < 65536) : Calls Tryz.prog 156 #[.int .i64 x] w fun e w' => e = .returned (.bool (consT x)) ∧ w = w' := by
  cases hv : validT x with
  | false =>
    go_enter Tryz.func156, Tryz.ntmps156
    go_wp2_with fail
    refine (refvalid_any _ _ x0 x1).mono ?_
    rintro e w' ⟨rfl, rfl⟩
    rw [hv]
    go_wp2_with fail
    go_ret
    exact ⟨by simp [consT, hv], rfl⟩
  | true =>
    by_cases h : 255 < x
    · have HC := Lib.hid (show consT x = (x / 256 / 32 % 2 == 1) by simp [consT, hv, h])
      go_enter Tryz.func156, Tryz.ntmps156
      go_wp2_with fail
      refine (refvalid_any _ _ x0 x1).mono ?_
      rintro e w' ⟨rfl, rfl⟩
      rw [hv]
      go_wp2_with fail
      go_ret
      exact ⟨by rw [HC.out]; rfl, rfl⟩
    · have HC := Lib.hid (show consT x = (x / 32 % 2 == 1) by simp [consT, hv, h])
      go_enter Tryz.func156, Tryz.ntmps156
      go_wp2_with fail
      refine (refvalid_any _ _ x0 x1).mono ?_
      rintro e w' ⟨rfl, rfl⟩
      rw [hv]
      go_wp2_with fail
      go_ret
      exact ⟨by rw [HC.out]; rfl, rfl⟩
end Go.Proofs.YthbpdhanljpigaaGreatDoor
namespace Go.Proofs.YthbpdhanljpigaaGreatDoor
open Go.RowKit
set_option linter.unusedVariables false
theorem run_appR {P : Program} {w : World} {t ty e : TypeId} {bytes B : Nat} (he : Elem P t e bytes) {v src : Value} {xs news : List Value} (hown : Own w B e v xs) (hr : Rd w src news) (h1 : ∀ u ∈ news, u.oneCell' = true)
    (hb : (xs.length + news.length) * bytes ≤ 140737488355328) (h63 : xs.length + news.length ≤ maxLen) (hB : B ≤ w.heap.size) :
    ∃ A c w', (Builtin.append_ #[t, t] ty #[v, src]).run P w = .ok (.slice A (xs.length + news.length) c) w' ∧ Own w' B e (.slice A (xs.length + news.length) c) (xs ++ news) ∧ w.grownBy w' (rowOf v) ∧ (∀ k, rowOf (.slice A (xs.length + news.length) c) = some k → rowOf v = some k ∨ w.heap.size ≤ k) := by
  obtain ⟨i, z, ht, hi, hz, hsz, hby, hzs⟩ := he.ex
  obtain ⟨A, n, c, rfl, hn, hcase⟩ := hown
  obtain ⟨A2, m, c2, rfl, hm, hmc, hcm2, hcells⟩ := hr
  by_cases hm0 : m = 0
  · subst hm0
    have hnil : news = [] := List.eq_nil_of_length_eq_zero (by omega)
    subst hnil
    have hnc : n ≤ c := by
      rcases hcase with h | ⟨g, cur, _, _, _, h, _⟩
      · omega
      · exact h
    refine ⟨A, c, w, ?_, ?_, ⟨rfl, rfl, rfl, Nat.le_refl _, fun _ _ _ => rfl⟩, fun k hk => .inl (by cases A <;> cases c <;> first | exact hk | (simp [rowOf] at hk))⟩
    · rw [append_none ht hi A A2 n c c2 hnc]; simp [hn]
    · simp only [List.length_nil, Nat.add_zero, List.append_nil, ← hn]
      exact ⟨A, n, c, rfl, hn, hcase⟩
  · obtain ⟨b2, o2, rfl, hc2⟩ := hcells (by omega)
    have hnews : ∀ j u, news[j]? = some u → w.cell? ((⟨b2, o2, none⟩ : Addr).add j) = some u := by
      intro j u hu
      rw [Addr.add_lit]
      exact hc2 j u hu
    rcases hcase with ⟨rfl, rfl⟩ | ⟨g, cur, rfl, hbg, hg, hnc, hcm, hcs, htk⟩
    · have hx : xs = [] := List.eq_nil_of_length_eq_zero (by omega)
      subst hx
      have key : ∃ v' w', (Builtin.append_ #[t, t] ty #[.slice A 0 0, .slice (some ⟨b2, o2, none⟩) m c2]).run P w = .ok v' w' ∧ w'.ownsRow w.heap.size e 1 v' m news ∧ w.grownBy w' none := by
        cases A with
        | none =>
          obtain ⟨v', w', h1', h2', h3', _⟩ := run_append_own (P := P) w w.heap.size t ty e i z 1 bytes ht hi hz hsz hby hzs (by decide) (.slice none 0 0) 0 [] (World.ownsRow_nil _ _ _ _) ⟨b2, o2, none⟩ m c2 news (by omega) hnews h1 (by simp only [List.length_nil] at h63; omega) (by simp only [List.length_nil, Nat.zero_add, ← hm] at hb ⊢; exact hb) (Nat.le_refl _)
          simp only [Nat.zero_add, List.nil_append] at h2'
          exact ⟨v', w', h1', h2', h3'⟩
        | some ad =>
          obtain ⟨v', w', h1', h2', h3'⟩ := run_append_arg_grows (P := P) w t ty e i z 1 bytes ht hi hz hsz hby hzs (by decide) ad 0 0 [] rfl (by simp) ⟨b2, o2, none⟩ m c2 news (by omega) hnews (by omega) (by simp only [List.length_nil] at h63; omega) (by simp only [List.length_nil, Nat.zero_add, ← hm] at hb ⊢; exact hb)
          simp only [Nat.zero_add, List.nil_append] at h2'
          exact ⟨v', w', h1', h2', h3'⟩
      obtain ⟨v', w', k1, k2, k3⟩ := key
      obtain ⟨g', cap', rfl, _, _⟩ := k2.form (by omega)
      have ho := (ownsRow_own k2).mono hB
      refine ⟨some ⟨g', 0, none⟩, cap', w', ?_, ?_, ⟨k3.os, k3.tape, k3.output, k3.size, fun k hk _ => k3.block k hk (by simp)⟩, fun k hk => .inr (rowOf_ge (ownsRow_own k2) k (by cases cap' <;> first | exact hk | (simp [rowOf] at hk)))⟩
      · rw [k1]; simp [hm]
      · simp only [List.length_nil, Nat.zero_add, List.nil_append, ← hm]; exact ho
    · have hown' : w.ownsRow B e 1 (.slice (some ⟨g, 0, none⟩) n c) n xs := ⟨by omega, .inr ⟨g, c, cur, rfl, hbg, hg, hnc, hcm, by omega, by simpa using htk⟩⟩
      by_cases hc0 : c = 0
      · subst hc0
        obtain rfl : n = 0 := by omega
        have hx : xs = [] := List.eq_nil_of_length_eq_zero (by omega)
        subst hx
        obtain ⟨v', w', k1, k2, k3⟩ := run_append_arg_grows (P := P) w t ty e i z 1 bytes ht hi hz hsz hby hzs (by decide) ⟨g, 0, none⟩ 0 0 [] rfl (by simp) ⟨b2, o2, none⟩ m c2 news (by omega) hnews (by omega) (by simp only [List.length_nil] at h63; omega) (by simp only [List.length_nil, Nat.zero_add, ← hm] at hb ⊢; exact hb)
        simp only [Nat.zero_add, List.nil_append] at k2
        obtain ⟨g', cap', rfl, _, _⟩ := k2.form (by omega)
        have ho := (ownsRow_own k2).mono hB
        refine ⟨some ⟨g', 0, none⟩, cap', w', ?_, ?_, ⟨k3.os, k3.tape, k3.output, k3.size, fun k hk _ => k3.block k hk (by simp)⟩, fun k hk => .inr (rowOf_ge (ownsRow_own k2) k (by cases cap' <;> first | exact hk | (simp [rowOf] at hk)))⟩
        · rw [k1]; simp [hm]
        · simp only [List.length_nil, Nat.zero_add, List.nil_append, ← hm]; exact ho
      · obtain ⟨v', w', k1, k2, k3, _, k5⟩ := run_append_own_at (P := P) w B t ty e i z 1 bytes ht hi hz hsz hby hzs (by decide) _ n xs hown' ⟨b2, o2, none⟩ m c2 news (by omega) hnews h1 (by omega) (by rw [hn, hm]; exact hb) hB
        obtain ⟨g', cap', rfl, _, _⟩ := k2.form (by omega)
        obtain ⟨c', rfl⟩ : ∃ c', c = c' + 1 := ⟨c - 1, by omega⟩
        refine ⟨some ⟨g', 0, none⟩, cap', w', ?_, ?_, ?_, fun k hk => ?_⟩
        · rw [k1]; simp [hm, hn]
        · rw [← hm, ← hn]; exact ownsRow_own k2
        · exact k3
        · cases cap' with
          | zero => simp [rowOf] at hk
          | succ q =>
            have hk' : g' = k := by simpa [rowOf] using hk
            subst hk'
            rcases k5 with h | h
            · exact .inl (h.symm.trans rfl)
            · exact .inr (Nat.le_of_eq (Option.some.inj h).symm)

section
variable {P : Program} {ops : Array Oper} {rest : List Oper} {o : Oper} {a : Act} {Q : Exit → Act → World → Prop} {w w0 : World}
theorem wpList_appR {t e : TypeId} {bytes B : Nat} (he : Elem P t e bytes) {v src : Value} {xs news : List Value} (hown : Own w B e v xs) (hr : Rd w src news) (h1 : ∀ u ∈ news, u.oneCell' = true)
    (hbel : Below B w0 w) (hb : (xs.length + news.length) * bytes ≤ 140737488355328) (h63 : xs.length + news.length ≤ maxLen) (hB : B ≤ w.heap.size)
    {s x : Operand} (hgd : o.guard = none) (ho : o.op = .call { callee := .builtin .append, args := #[s, x], argTypes := #[t, t] }) (hs : a.eval s = v) (hx : a.eval x = src)
    (h : ∀ A c w', Own w' B e (.slice A (xs.length + news.length) c) (xs ++ news) → Below B w0 w' → w.grownBy w' (rowOf v) → (∀ k, rowOf (.slice A (xs.length + news.length) c) = some k → rowOf v = some k ∨ w.heap.size ≤ k) → wpList P ops Q rest (a.put o.dst (.slice A (xs.length + news.length) c)) w') : wpList P ops Q (o :: rest) a w :=
  wpList_plain hgd fun _ hK => by
    obtain ⟨A, c, w', hrun, h2, h3, h4⟩ := run_appR (P := P) (ty := o.type) he hown hr h1 hb h63 hB
    unfold Oper.wp execOp
    simp only [ho, resolve, invoke, builtin, Sem.run_bind, Sem.run_pure, Result.andThen_ok, List.map_toArray, List.map_cons, List.map_nil, hs, hx, hrun]
    exact hK _ _ (h A c w' h2 (hbel.grown h3 hB (rowOf_ge hown)) h3 h4)
end
section
variable {ops : Array Oper} {rest : List Oper} {o : Oper} {a : Act} {Q : Exit → Act → World → Prop} {w w0 : World}
theorem appR {B : Nat} {v src : Value} {xs ys : List UInt8} (hown : Own w B 5 v (bvs xs)) (hr : Rd w src (bvs ys)) (hbel : Below B w0 w) (hb : xs.length + ys.length ≤ 140737488355328) (hB : B ≤ w.heap.size)
    {s x : Operand} (hgd : o.guard = none) (ho : o.op = .call { callee := .builtin .append, args := #[s, x], argTypes := #[26, 26] }) (hs : a.eval s = v) (hx : a.eval x = src)
    (h : ∀ A n c w', Hid (n = xs.length + ys.length) → Own w' B 5 (.slice A n c) (bvs (xs ++ ys)) → Below B w0 w' → w.grownBy w' (rowOf v) → (∀ k, rowOf (.slice A n c) = some k → rowOf v = some k ∨ w.heap.size ≤ k) → wpList Tryz.prog ops Q rest (a.put o.dst (.slice A n c)) w') : wpList Tryz.prog ops Q (o :: rest) a w :=
  wpList_appR elemB hown hr (bvs_one _) hbel (by simpa [bvs_length] using hb) (maxLen_47 (by simpa [bvs_length] using hb)) hB hgd ho hs hx (by
    intro A c w' h1 h2 h3 h4
    simp only [bvs_length, bvs_append] at h1 h4 ⊢
    exact h A _ c w' (show _ = _ from rfl) h1 h2 h3 h4)
end
end Go.Proofs.YthbpdhanljpigaaGreatDoor
