/- Layer 24: numbers as bytes, leaves, []byte of a text. -/
import Derived.Test.YteilglpdmfiinaaDoorCt
import Derived.Test.YteilglpdmfiinaaDoorPkd
import Derived.Test.YteilglpdmfiinaaDoorBk
import Derived.Test.YteilglpdmfiinaaDoorNo
import Derived.Lib.ConvBytes
namespace Go.Proofs.YteilglpdmfiinaaDoor
open Go.RowKit
set_option linter.unusedVariables false
set_option maxRecDepth 100000

theorem bvs_be3 (x : Int) : bvs (be3 x) = [.int .u8 (x / 65536 % 256), .int .u8 (x / 256 % 256), .int .u8 (x % 256)] := by
  simp [bvs, be3, bv_u8]
theorem three_any (x : Int) (w : World) : Calls Tryd.prog 79 #[.int .i64 x] w (RetB w (be3 x)) := by
  go_enter Tryd.func79, Tryd.ntmps79
  go_wp2
  go_ret
  refine ⟨_, _, _, rfl, (show _ = _ from rfl), ?_, (Below.refl _ _).alloc (Nat.le_refl _) _⟩
  rw [bvs_be3]
  exact Own.lit w _ _ 3 rfl (by unfold maxLen; omega)
/-- A number in so many bytes. -/
def beN : Nat → Int → List UInt8
  | 0, _ => []
  | k + 1, x => beN k (x / 256) ++ [u8 x]
theorem beN_len : ∀ (k : Nat) (x : Int), (beN k x).length = k
  | 0, _ => rfl
  | k + 1, x => by rw [beN, List.length_append, beN_len k]; rfl
theorem beN_1 (x : Int) : beN 1 x = [u8 x] := rfl
theorem beN_2 (x : Int) : beN 2 x = [u8 (x / 256), u8 x] := rfl
theorem beN_3 (x : Int) : beN 3 x = be3 x := by
  show [u8 (x / 256 / 256), u8 (x / 256), u8 x] = _
  rw [show x / 256 / 256 = x / 65536 by omega]
  rfl
theorem beN_4 (x : Int) : beN 4 x = be4 x := by
  show [u8 (x / 256 / 256 / 256), u8 (x / 256 / 256), u8 (x / 256), u8 x] = _
  rw [show x / 256 / 256 / 256 = x / 16777216 by omega, show x / 256 / 256 = x / 65536 by omega]
  rfl
theorem set_rep (v : UInt8) (T : List UInt8) : ∀ k : Nat, (List.replicate (k + 1) 0 ++ T).set k v = List.replicate k 0 ++ v :: T
  | 0 => rfl
  | k + 1 => by
    rw [List.replicate_succ, List.cons_append, List.set_cons_succ, set_rep v T k, List.replicate_succ (n := k)]
    rfl
theorem u8_mod (x : Int) : u8 (x % 256) = u8 x := by unfold u8; rw [Int.emod_emod]
/-- Where the loop of Bytes stands. -/
def BnL (w : World) (size : Nat) (x : Int) (n i : Value) (wr : World) : Prop :=
  ∃ (k : Nat) (y : Int) (T : List UInt8), k ≤ size ∧ i = .int .i64 ((k : Int) - 1) ∧ n = .int .i64 y ∧ 0 ≤ y ∧ y < 9223372036854775808 ∧ beN k y ++ T = beN size x ∧ Bk wr w.heap.size (List.replicate k 0 ++ T) ∧ Below w.heap.size w wr
set_option maxHeartbeats 1000000 in
theorem refbytes_full (size : Nat) (x z : Int) (w : World) (h0 : 0 ≤ x) (h1 : x < 9223372036854775808) (hz : z = (size : Int)) (hs : size ≤ 100) : Calls Tryd.prog 86 #[.int .i64 x, .int .i64 z] w fun e w' => ∃ A, e = .returned (.slice A size size) ∧ Own w' w.heap.size 5 (.slice A size size) (bvs (beN size x)) ∧ Ext w w' := by
  subst hz
  go_enter Tryd.func86, Tryd.ntmps86
  go_wp2_with (refine makeB size _ rfl rfl rfl rfl rfl (by omega) (Below.refl _ _) (Nat.le_refl _) ?_; intro w1 k1 b1 x1)
  have R0 : BnL w size x (.int .i64 x) (.int .i64 ((size : Int) - 1)) w1 := ⟨size, x, [], Nat.le_refl _, rfl, rfl, h0, h1, List.append_nil _, by rw [List.append_nil]; exact k1, b1⟩
  have R0' := Lib.hid R0
  clear R0 k1 b1 x1
  go_loopw [0, 6] (fun n i wr => BnL w size x n i wr) (fun _ i _ => (intOf i + 1).toNat)
  case atStart => exact R0'.out
  case round =>
    obtain ⟨k, y, T, hk, rfl, rfl, y0, y1, hT, kb, bb⟩ := hrel
    have HT := Lib.hid hT
    have HB := Lib.hid kb
    clear hT kb
    match k, hk, HT, HB with
    | 0, hk, HT, HB =>
      have e : T = beN size x := by have := HT.out; simpa [beN] using this
      subst e
      rw [show ((0 : Nat) : Int) - 1 = -1 from rfl]
      have ho := HB.out.own (B := w.heap.size) (Nat.le_refl _) (by simp [beN_len]; unfold maxLen; omega)
      simp only [List.replicate_zero, List.nil_append, beN_len] at ho
      have HO := Lib.hid ho
      clear ho
      go_wp2
      go_ret
      exact ⟨_, rfl, HO.out, bb⟩
    | k + 1, hk, HT, HB =>
      rw [show ((k + 1 : Nat) : Int) - 1 = (k : Int) by omega]
      have hc := HB.out.cell (j := k) (by simp; omega)
      have hf := HB.out.frozen k
      have wi1 : IntKind.i64.wrap ((k : Int)) = (k : Int) := IntWalk.i64_in _ (by omega)
      have zi1 : (0 : Int) ≤ (k : Int) := by omega
      have li1 : (k : Int) < (size : Int) := by omega
      have ti1 : ((k : Int)).toNat = k := by omega
      have d0 : 0 ≤ y / 256 := by omega
      have d1 : y / 256 < 9223372036854775808 := by omega
      go_wp2
      go_roundw
      case rel =>
        refine ⟨k, y / 256, u8 y :: T, by omega, rfl, rfl, d0, d1, ?_, ?_, bb.setCell (p := ⟨w.heap.size, k, none⟩) (Nat.le_refl _) _⟩
        · have := HT.out
          rw [beN, List.append_assoc] at this
          exact this
        · have := HB.out.set k (y % 256) (by omega) (by omega)
          rw [set_rep, u8_mod] at this
          exact this
      case measure => simp [intOf]
theorem refbytes_any (size : Nat) (x z : Int) (w : World) (h0 : 0 ≤ x) (h1 : x < 9223372036854775808) (hz : z = (size : Int)) (hs : size ≤ 100) : Calls Tryd.prog 86 #[.int .i64 x, .int .i64 z] w (RetB w (beN size x)) :=
  (refbytes_full size x z w h0 h1 hz hs).mono fun e w' ⟨A, h1, h2, h3⟩ => ⟨_, _, _, h1, (show _ = _ by rw [beN_len]), h2, h3⟩
theorem leaf_any (t : Int) (A : Option Addr) (n c : Nat) (w : World) : Calls Tryd.prog 47 #[.int .i64 t, .slice A n c] w (RetQ w (.agg #[.int .i64 t, .slice A n c, .slice none 0 0])) := by
  go_enter Tryd.func47, Tryd.ntmps47
  go_wp2_with fail
  refine bodyPost_ret (v := .agg #[.int .i64 t, .slice A n c, .slice none 0 0]) ?_ rfl ⟨rfl, ?_⟩
  · simp [results, Tryd.results47, go_sem]
  · exact (Below.refl _ _).alloc (Nat.le_refl _) _
/-- []byte(s): new bytes. -/
theorem run_strBytes (W : World) (l : List UInt8) (hl : l.length ≤ 4096) : ∃ A n c w', (convert 9 30 (.string (bstr l))).run Tryd.prog W = .ok (.slice A n c) w' ∧ Ext W w' ∧ Hid (n = l.length) ∧ RdS (fun b => W.heap.size ≤ b) w' (.slice A n c) (bvs l) := by
  have hsz : (bstr l).size = l.length := by show l.toArray.size = _; simp
  refine ⟨_, _, _, _, Lib.run_convert_string_bytes W 9 30 5 (bstr l) Tryd.underlying9 Tryd.underlying30 Tryd.underlying5, ?_, (show _ = _ from hsz), ?_⟩
  · exact ⟨by simp [Lib.bytesWorld, World.freeze, World.alloc, World.drew, -World.alloc_eq, -World.drew_eq], by simp [Lib.bytesWorld, World.freeze, World.alloc, World.drew, -World.alloc_eq, -World.drew_eq], by simp [Lib.bytesWorld, World.freeze, World.alloc, World.drew, -World.alloc_eq, -World.drew_eq], by rw [Lib.bytesWorld_size]; omega, fun k hk => Lib.bytesWorld_at_old _ _ _ _ hk⟩
  · refine ⟨_, _, _, rfl, by rw [bvs_length]; exact hsz, grownCap_ge _ _ _ _, grownCap_le_maxLen _ _ _ _ (by unfold maxLen; omega), fun _ => ⟨_, 0, rfl, Nat.le_refl _, fun j u hu => ?_⟩⟩
    obtain ⟨hj, rfl⟩ := bvs_get hu
    rw [Nat.zero_add, Lib.bytesWorld_cell _ _ _ _ (by rw [hsz]; exact hj)]
    congr 2
    simp [bstr, List.getD_eq_getElem?_getD, hj]
end Go.Proofs.YteilglpdmfiinaaDoor
