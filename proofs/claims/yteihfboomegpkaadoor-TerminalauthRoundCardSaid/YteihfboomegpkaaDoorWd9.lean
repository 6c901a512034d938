/- Hex, the words' Same, Compress at sizes that are not permitted. -/
import Derived.Test.YteihfboomegpkaaDoorWd5
import Derived.Test.YteihfboomegpkaaDoorWx
namespace Go.Proofs.YteihfboomegpkaaDoor
open Go.RowKit
set_option linter.unusedVariables false

def hexd : List UInt8 := [48, 49, 50, 51, 52, 53, 54, 55, 56, 57, 97, 98, 99, 100, 101, 102]
def hexs (l : List UInt8) : List UInt8 := (l.map fun b => [hexd.getD (b.toNat / 16) 0, hexd.getD (b.toNat % 16) 0]).flatten

theorem hexs_length (l : List UInt8) : (hexs l).length = 2 * l.length := by
  unfold hexs
  induction l with
  | nil => rfl
  | cons x r ih => simp only [List.map_cons, List.flatten_cons, List.length_append, ih, List.length_cons, List.length_nil]; omega
theorem hexs_step {l : List UInt8} {k : Nat} (h : k < l.length) : hexs (l.take (k + 1)) = hexs (l.take k) ++ [hexd.getD (byteI l k / 16).toNat 0, hexd.getD (byteI l k % 16).toNat 0] := by
  unfold hexs
  rw [List.take_succ_eq_append_getElem h, List.map_append, List.flatten_append, byteI_get h]
  have e1 : ((l[k].toNat : Int) / 16).toNat = l[k].toNat / 16 := by omega
  have e2 : ((l[k].toNat : Int) % 16).toNat = l[k].toNat % 16 := by omega
  rw [e1, e2]
  rfl
theorem nib {y : Int} (h0 : 0 ≤ y) (h1 : y < 16) : ∃ k : Fin 16, y = (k.val : Int) := ⟨⟨y.toNat, by omega⟩, by simp; omega⟩
/-- A digit of a number below 16. -/
def hexc (y : Int) : Int := ((hexd.getD y.toNat 0).toNat : Int)
theorem run_digit {y : Int} (h0 : 0 ≤ y) (h1 : y < 16) (W : World) : (Instr.index 9 (.string ⟨#[48, 49, 50, 51, 52, 53, 54, 55, 56, 57, 97, 98, 99, 100, 101, 102]⟩) (.int .u8 y)).run Tryd.prog W = .ok (.int .u8 (hexc y)) W := by
  obtain ⟨k, rfl⟩ := nib h0 h1
  match k with
  | ⟨0, _⟩ => show _ = _; kernel_rfl
  | ⟨1, _⟩ => show _ = _; kernel_rfl
  | ⟨2, _⟩ => show _ = _; kernel_rfl
  | ⟨3, _⟩ => show _ = _; kernel_rfl
  | ⟨4, _⟩ => show _ = _; kernel_rfl
  | ⟨5, _⟩ => show _ = _; kernel_rfl
  | ⟨6, _⟩ => show _ = _; kernel_rfl
  | ⟨7, _⟩ => show _ = _; kernel_rfl
  | ⟨8, _⟩ => show _ = _; kernel_rfl
  | ⟨9, _⟩ => show _ = _; kernel_rfl
  | ⟨10, _⟩ => show _ = _; kernel_rfl
  | ⟨11, _⟩ => show _ = _; kernel_rfl
  | ⟨12, _⟩ => show _ = _; kernel_rfl
  | ⟨13, _⟩ => show _ = _; kernel_rfl
  | ⟨14, _⟩ => show _ = _; kernel_rfl
  | ⟨15, _⟩ => show _ = _; kernel_rfl
theorem run_digit_string {y : Int} (h0 : 0 ≤ y) (h1 : y < 16) (W : World) : (convert 5 9 (.int .u8 (hexc y))).run Tryd.prog W = .ok (.string ⟨#[hexd.getD y.toNat 0]⟩) W := by
  obtain ⟨k, rfl⟩ := nib h0 h1
  match k with
  | ⟨0, _⟩ => show _ = _; kernel_rfl
  | ⟨1, _⟩ => show _ = _; kernel_rfl
  | ⟨2, _⟩ => show _ = _; kernel_rfl
  | ⟨3, _⟩ => show _ = _; kernel_rfl
  | ⟨4, _⟩ => show _ = _; kernel_rfl
  | ⟨5, _⟩ => show _ = _; kernel_rfl
  | ⟨6, _⟩ => show _ = _; kernel_rfl
  | ⟨7, _⟩ => show _ = _; kernel_rfl
  | ⟨8, _⟩ => show _ = _; kernel_rfl
  | ⟨9, _⟩ => show _ = _; kernel_rfl
  | ⟨10, _⟩ => show _ = _; kernel_rfl
  | ⟨11, _⟩ => show _ = _; kernel_rfl
  | ⟨12, _⟩ => show _ = _; kernel_rfl
  | ⟨13, _⟩ => show _ = _; kernel_rfl
  | ⟨14, _⟩ => show _ = _; kernel_rfl
  | ⟨15, _⟩ => show _ = _; kernel_rfl

set_option maxRecDepth 100000 in
set_option maxHeartbeats 2000000 in
theorem hex_any {b : Value} {l : List UInt8} (w : World) (hb : Rd w b (bvs l)) (hl : l.length ≤ 1048576) :
    Calls Tryd.prog 31 #[b] w (RetQ w (.string ⟨(hexs l).toArray⟩)) := by
  obtain ⟨A, n, c, rfl, hn, hnc, hcm, hA⟩ := hb.bytes
  subst hn
  unfold maxLen at hcm
  clear hb
  go_enter Tryd.func31, Tryd.ntmps31
  go_wp2
  go_loopw [3, 4] (fun s i wr => ∃ k : Nat, k ≤ l.length ∧ i = .int .i64 k ∧ s = .string ⟨(hexs (l.take k)).toArray⟩ ∧ ∃ n, wr = w.drewN n) (fun _ i _ => l.length - (intOf i).toNat)
  case atStart => exact ⟨0, Nat.zero_le _, rfl, rfl, 0, rfl⟩
  case round =>
    obtain ⟨k, hk, rfl, rfl, n, rfl⟩ := hrel
    by_cases hlt : k < l.length
    · obtain ⟨b1, o1, rfl, _, hc1⟩ := hA (by omega)
      have c0 := hc1 k hlt
      obtain ⟨x, hx⟩ : ∃ x, x = byteI l k := ⟨_, rfl⟩
      have x0 : 0 ≤ x := by rw [hx]; exact byteI_lo _ _
      have x1 : x < 256 := by rw [hx]; exact byteI_hi _ _
      rw [← hx] at c0
      have HX := Lib.hid hx
      clear hx hA hc1
      have wi1 : IntKind.i64.wrap ((k : Int)) = (k : Int) := IntWalk.i64_in _ (by omega)
      have zi1 : (0 : Int) ≤ (k : Int) := by omega
      have li1 : (k : Int) < l.length := by omega
      have ti1 : ((k : Int)).toNat = k := by omega
      obtain ⟨y, hy⟩ : ∃ y, y = x / 16 := ⟨_, rfl⟩
      obtain ⟨z, hz⟩ : ∃ z, z = x % 16 := ⟨_, rfl⟩
      have e1 : IntKind.u8.wrap (x.tdiv 16) = y := by rw [Int.tdiv_eq_ediv_of_nonneg x0, hy, IntKind.wrap_u8]; omega
      have e2 : x.tmod 16 = z := by rw [Int.tmod_eq_emod_of_nonneg x0, hz]
      have iy := run_digit (y := y) (by omega) (by omega)
      have iz := run_digit (y := z) (by omega) (by omega)
      have sy := run_digit_string (y := y) (by omega) (by omega)
      have sz := run_digit_string (y := z) (by omega) (by omega)
      have HY := Lib.hid hy
      have HZ := Lib.hid hz
      clear hy hz
      obtain ⟨S, hS⟩ : ∃ S : ByteArray, S = ⟨(hexs (l.take k)).toArray⟩ := ⟨_, rfl⟩
      rw [← hS]
      have hadd : ∀ W, (Op.stringOp .add S ((⟨#[hexd[y.toNat]?.getD 0]⟩ : ByteArray) ++ ⟨#[hexd[z.toNat]?.getD 0]⟩)).run Tryd.prog W = .ok (.string (S ++ ((⟨#[hexd[y.toNat]?.getD 0]⟩ : ByteArray) ++ ⟨#[hexd[z.toNat]?.getD 0]⟩))) W := fun W => run_string_add_sum (w := W) _ _ (by
        rw [ByteArray.size_append, hS]
        show (hexs (l.take k)).toArray.size + (1 + 1) ≤ _
        rw [List.size_toArray, hexs_length, List.length_take]
        omega)
      have HS := Lib.hid hS
      clear hS
      go_wp2
      go_quiet (fail)
      go_wp2
      go_roundw
      case rel =>
        refine ⟨k + 1, by omega, by go_num, congrArg _ ?_, n + nq, rfl⟩
        rw [HS.out]
        apply ByteArray.ext
        simp only [ByteArray.data_append]
        rw [hexs_step hlt, ← HX.out, ← HY.out, ← HZ.out]
        simp [List.getD_eq_getElem?_getD]
      case measure => simp [intOf]; omega
    · obtain rfl : k = l.length := by omega
      go_wp2
      go_ret
      refine ⟨?_, Ext.drewN_ _ _⟩
      show Ending.returned (.string ⟨(hexs (l.take l.length)).toArray⟩) = _
      rw [List.take_length]

/-- The words' Same. -/
theorem wsame_any {a b : Value} {xs ys : List Int} (w : World) (ha : RdI w .u32 a xs) (hb : RdI w .u32 b ys) :
    Calls Tryd.prog 27 #[a, b] w (RetQ w (.bool (decide (xs = ys)))) := by
  obtain ⟨A, n1, c, rfl, hn1, hnc, hcm, hA⟩ := ha.ints
  obtain ⟨A2, n2, c2, rfl, hn2, hnc2, hcm2, hB⟩ := hb.ints
  subst hn1 hn2
  unfold maxLen at hcm hcm2
  by_cases hl : xs.length = ys.length
  · have hl1 : ((xs.length : Int) != (ys.length : Int)) = false := by simp [hl]
    have HL : Hid (xs.length = ys.length) := hl
    clear hl
    go_enter Tryd.func27, Tryd.ntmps27
    go_wp2
    go_loopw [5] (fun i wr => ∃ k : Nat, k ≤ xs.length ∧ i = .int .i64 k ∧ xs.take k = ys.take k ∧ ∃ n, wr = w.drewN n) (fun i _ => xs.length - (intOf i).toNat)
    case atStart => exact ⟨0, Nat.zero_le _, rfl, rfl, 0, rfl⟩
    case round =>
      obtain ⟨k, hk, rfl, hpre, n, rfl⟩ := hrel
      by_cases hlt : k < xs.length
      · obtain ⟨b1, o1, rfl, _, hc1⟩ := hA (by omega)
        obtain ⟨b2, o2, rfl, _, hc2⟩ := hB (by have := HL.out; omega)
        have h2 : k < ys.length := by have := HL.out; omega
        have d1 := hc1 k hlt
        have d2 := hc2 k h2
        obtain ⟨x, hx⟩ : ∃ x, x = xs.getD k 0 := ⟨_, rfl⟩
        obtain ⟨y, hy⟩ : ∃ y, y = ys.getD k 0 := ⟨_, rfl⟩
        rw [← hx] at d1
        rw [← hy] at d2
        have HX := Lib.hid hx
        have HY := Lib.hid hy
        clear hx hy
        have e1 : (0 : Int) ≤ (k : Int) := by omega
        have e2 : (k : Int) < (xs.length : Int) := by omega
        have e3 : (k : Int) < (ys.length : Int) := by omega
        have HP := Lib.hid hpre
        clear hpre hc1 hc2 hA hB
        go_wp2
        go_quiet (fail)
        go_wp2
        · go_wp2
          go_ret
          refine ⟨?_, Below.drewN_ (Ext.drewN_ _ _) _⟩
          have hne : (x != y) = true := by assumption
          have : xs ≠ ys := by
            rintro rfl
            rw [HX.out, HY.out] at hne
            simp at hne
          simp [this]
        · have hne : (x != y) = false := by assumption
          have he : xs[k] = ys[k] := by
            have h3 := HX.out
            have h4 := HY.out
            simp only [List.getD_eq_getElem?_getD, List.getElem?_eq_getElem hlt, List.getElem?_eq_getElem h2, Option.getD_some] at h3 h4
            rw [← h3, ← h4]
            simpa using hne
          go_roundw
          case rel => exact ⟨k + 1, by omega, by go_num, take_snoc_eq HP.out hlt h2 he, n + nq, by simp⟩
          case measure => simp [intOf]; omega
      · go_wp2
        go_ret
        refine ⟨?_, Ext.drewN_ _ _⟩
        have := take_all hpre (by omega) HL.out
        simp [this]
  · have hl1 : ((xs.length : Int) != (ys.length : Int)) = true := by simp; omega
    go_enter Tryd.func27, Tryd.ntmps27
    go_wp2
    go_ret
    refine ⟨?_, Below.refl _ _⟩
    have : xs ≠ ys := by
      rintro rfl
      exact hl rfl
    simp [this]
set_option maxRecDepth 100000 in
set_option maxHeartbeats 2000000 in
/-- Compress at sizes that are not permitted. -/
theorem digcomp_bad {A A2 : Option Addr} {n c n2 c2 : Nat} (w : World) (h : ¬ (n = 8 ∧ n2 = 64)) (hn : n ≤ 9223372036854775807) (hn2 : n2 ≤ 9223372036854775807) :
    Calls Tryd.prog 25 #[.slice A n c, .slice A2 n2 c2] w (RetQ w (.tuple #[.slice none 0 0, .int .i64 2])) := by
  by_cases h8 : n = 8
  · subst h8
    have h64 : ((n2 : Int) != 64) = true := by simp; omega
    go_enter Tryd.func25, Tryd.ntmps25
    go_wp2
    go_ret2
    exact ⟨rfl, Below.refl _ _⟩
  · have h8' : ((n : Int) != 8) = true := by simp; omega
    go_enter Tryd.func25, Tryd.ntmps25
    go_wp2
    go_ret2
    exact ⟨rfl, Below.refl _ _⟩
set_option maxRecDepth 100000 in
set_option maxHeartbeats 2000000 in
theorem refcomp_bad {A A2 : Option Addr} {n c n2 c2 : Nat} (w : World) (h : ¬ (n = 8 ∧ n2 = 64)) (hn : n ≤ 9223372036854775807) (hn2 : n2 ≤ 9223372036854775807) :
    Calls Tryd.prog 26 #[.slice A n c, .slice A2 n2 c2] w (RetQ w (.tuple #[.slice none 0 0, .int .i64 2])) := by
  by_cases h8 : n = 8
  · subst h8
    have h64 : ((n2 : Int) != 64) = true := by simp; omega
    go_enter Tryd.func26, Tryd.ntmps26
    go_wp2
    go_ret2
    exact ⟨rfl, Below.refl _ _⟩
  · have h8' : ((n : Int) != 8) = true := by simp; omega
    go_enter Tryd.func26, Tryd.ntmps26
    go_wp2
    go_ret2
    exact ⟨rfl, Below.refl _ _⟩
end Go.Proofs.YteihfboomegpkaaDoor
