/- Parts Bn Nw of the proof. -/
import Derived.Test.YtmmoenkmicimcaaGreatDoorDRao
import Derived.Test.YtmmoenkmicimcaaGreatDoorDRai
import Derived.Test.YtmmoenkmicimcaaGreatDoorDRah
import Derived.Lib.ConvBytes
namespace Go.Proofs.YtmmoenkmicimcaaGreatDoor
open Go.RowKit
set_option linter.unusedVariables false
set_option maxRecDepth 100000
/-- A number in so many bytes. -/
def beN : Nat → Int → List UInt8
  | 0, _ => []
  | k + 1, x => beN k (x / 256) ++ [u8 x]
theorem beN_len : ∀ (k : Nat) (x : Int), (beN k x).length = k
  | 0, _ => rfl
  | k + 1, x => by rw [beN, List.length_append, beN_len k]; rfl
theorem beN_1 (x : Int) : beN 1 x = [u8 x] := rfl
theorem beN_3 (x : Int) : beN 3 x = be3 x := by
  show [u8 (x / 256 / 256), u8 (x / 256), u8 x] = _
  rw [show x / 256 / 256 = x / 65536 by omega]
  rfl
theorem beN_4 (x : Int) : beN 4 x = be4 x := by
  show [u8 (x / 256 / 256 / 256), u8 (x / 256 / 256), u8 (x / 256), u8 x] = _
  rw [show x / 256 / 256 / 256 = x / 16777216 by omega, show x / 256 / 256 = x / 65536 by omega]
  rfl
theorem set_rep (v : UInt8) (T : List UInt8) : ∀ k : Nat, (List.replicate (k + 1) 0 ++ T).set k v = List.replicate k 0 ++ v :: T
  | 0 => rfl
  | k + 1 => by
    rw [List.replicate_succ, List.cons_append, List.set_cons_succ, set_rep v T k, List.replicate_succ (n := k)]
    rfl
theorem u8_mod (x : Int) : u8 (x % 256) = u8 x := by unfold u8; rw [Int.emod_emod]
/-- Where the loop of Bytes stands. -/
def BnL (w : World) (size : Nat) (x : Int) (n i : Value) (wr : World) : Prop :=
  ∃ (k : Nat) (y : Int) (T : List UInt8), k ≤ size ∧ i = .int .i64 ((k : Int) - 1) ∧ n = .int .i64 y ∧ 0 ≤ y ∧ y < 9223372036854775808 ∧ beN k y ++ T = beN size x ∧ Bk wr w.heap.size (List.replicate k 0 ++ T) ∧ Below w.heap.size w wr
set_option maxHeartbeats 1000000 in
theorem refbytes_full (size : Nat) (x z : Int) (w : World) (h0 : 0 ≤ x) (h1 : x < 9223372036854775808) (hz : z = (size : Int)) (hs : size ≤ 100) : Calls Tryz.prog 52 #[.int .i64 x, .int .i64 z] w fun e w' => ∃ A, e = .returned (.slice A size size) ∧ Own w' w.heap.size 5 (.slice A size size) (bvs (beN size x)) ∧ Ext w w' := by
  subst hz
  go_enter Tryz.func52, Tryz.ntmps52
  go_wp2_with (refine makeB size _ rfl rfl rfl rfl rfl (by omega) (Below.refl _ _) (Nat.le_refl _) ?_; intro w1 k1 b1 x1)
  have R0 : BnL w size x (.int .i64 x) (.int .i64 ((size : Int) - 1)) w1 := ⟨size, x, [], Nat.le_refl _, rfl, rfl, h0, h1, List.append_nil _, by rw [List.append_nil]; exact k1, b1⟩
  have R0' := Lib.hid R0
  clear R0 k1 b1 x1
  go_loopw [0, 6] (fun n i wr => BnL w size x n i wr) (fun _ i _ => (intOf i + 1).toNat)
  case atStart => exact R0'.out
  case round =>
    obtain ⟨k, y, T, hk, rfl, rfl, y0, y1, hT, kb, bb⟩ := hrel
    have HT := Lib.hid hT
    have HB := Lib.hid kb
    clear hT kb
    match k, hk, HT, HB with
    | 0, hk, HT, HB =>
      have e : T = beN size x := by have := HT.out; simpa [beN] using this
      subst e
      rw [show ((0 : Nat) : Int) - 1 = -1 from rfl]
      have ho := HB.out.own (B := w.heap.size) (Nat.le_refl _) (by simp [beN_len]; unfold maxLen; omega)
      simp only [List.replicate_zero, List.nil_append, beN_len] at ho
      have HO := Lib.hid ho
      clear ho
      go_wp2
      go_ret
      exact ⟨_, rfl, HO.out, bb⟩
    | k + 1, hk, HT, HB =>
      rw [show ((k + 1 : Nat) : Int) - 1 = (k : Int) by omega]
      have hc := HB.out.cell (j := k) (by simp; omega)
      have hf := HB.out.frozen k
      have wi1 : IntKind.i64.wrap ((k : Int)) = (k : Int) := IntWalk.i64_in _ (by omega)
      have zi1 : (0 : Int) ≤ (k : Int) := by omega
      have li1 : (k : Int) < (size : Int) := by omega
      have ti1 : ((k : Int)).toNat = k := by omega
      have d0 : 0 ≤ y / 256 := by omega
      have d1 : y / 256 < 9223372036854775808 := by omega
      go_wp2
      go_roundw
      case rel =>
        refine ⟨k, y / 256, u8 y :: T, by omega, rfl, rfl, d0, d1, ?_, ?_, bb.setCell (p := ⟨w.heap.size, k, none⟩) (Nat.le_refl _) _⟩
        · have := HT.out
          rw [beN, List.append_assoc] at this
          exact this
        · have := HB.out.set k (y % 256) (by omega) (by omega)
          rw [set_rep, u8_mod] at this
          exact this
      case measure => simp [intOf]
theorem refbytes_any (size : Nat) (x z : Int) (w : World) (h0 : 0 ≤ x) (h1 : x < 9223372036854775808) (hz : z = (size : Int)) (hs : size ≤ 100) : Calls Tryz.prog 52 #[.int .i64 x, .int .i64 z] w (RetB w (beN size x)) :=
  (refbytes_full size x z w h0 h1 hz hs).mono fun e w' ⟨A, h1, h2, h3⟩ => ⟨_, _, _, h1, (show _ = _ by rw [beN_len]), h2, h3⟩
theorem leaf_any (t : Int) (A : Option Addr) (n c : Nat) (w : World) : Calls Tryz.prog 51 #[.int .i64 t, .slice A n c] w (RetQ w (.agg #[.int .i64 t, .slice A n c, .slice none 0 0])) := by
  go_enter Tryz.func51, Tryz.ntmps51
  go_wp2_with fail
  refine bodyPost_ret (v := .agg #[.int .i64 t, .slice A n c, .slice none 0 0]) ?_ rfl ⟨rfl, ?_⟩
  · simp [results, Tryz.results51, go_sem]
  · exact (Below.refl _ _).alloc (Nat.le_refl _) _
/-- []byte(s): new bytes. -/
theorem run_strBytes (W : World) (l : List UInt8) (hl : l.length ≤ 4096) : ∃ A n c w', (convert 9 48 (.string (bstr l))).run Tryz.prog W = .ok (.slice A n c) w' ∧ Ext W w' ∧ Hid (n = l.length) ∧ RdS (fun b => W.heap.size ≤ b) w' (.slice A n c) (bvs l) := by
  have hsz : (bstr l).size = l.length := by show l.toArray.size = _; simp
  refine ⟨_, _, _, _, Lib.run_convert_string_bytes W 9 48 5 (bstr l) Tryz.underlying9 Tryz.underlying48 Tryz.underlying5, ?_, (show _ = _ from hsz), ?_⟩
  · exact ⟨by simp [Lib.bytesWorld, World.freeze, World.alloc, World.drew, -World.alloc_eq, -World.drew_eq], by simp [Lib.bytesWorld, World.freeze, World.alloc, World.drew, -World.alloc_eq, -World.drew_eq], by simp [Lib.bytesWorld, World.freeze, World.alloc, World.drew, -World.alloc_eq, -World.drew_eq], by rw [Lib.bytesWorld_size]; omega, fun k hk => Lib.bytesWorld_at_old _ _ _ _ hk⟩
  · refine ⟨_, _, _, rfl, by rw [bvs_length]; exact hsz, grownCap_ge _ _ _ _, grownCap_le_maxLen _ _ _ _ (by unfold maxLen; omega), fun _ => ⟨_, 0, rfl, Nat.le_refl _, fun j u hu => ?_⟩⟩
    obtain ⟨hj, rfl⟩ := bvs_get hu
    rw [Nat.zero_add, Lib.bytesWorld_cell _ _ _ _ (by rw [hsz]; exact hj)]
    congr 2
    simp [bstr, List.getD_eq_getElem?_getD, hj]
end Go.Proofs.YtmmoenkmicimcaaGreatDoor
namespace Go.Proofs.YtmmoenkmicimcaaGreatDoor
open Go.RowKit
set_option linter.unusedVariables false
set_option maxRecDepth 100000
def wideB (size : Nat) (l : List Int) : List UInt8 := l.flatMap (beN size)
theorem wideB_len (size : Nat) : ∀ l : List Int, (wideB size l).length = l.length * size
  | [] => by simp [wideB]
  | x :: l => by
    have := wideB_len size l
    unfold wideB at *
    rw [List.flatMap_cons, List.length_append, beN_len, this, List.length_cons, Nat.succ_mul, Nat.add_comm]
theorem wideB_snoc (size : Nat) (l : List Int) (x : Int) : wideB size (l ++ [x]) = wideB size l ++ beN size x := by simp [wideB]
theorem beN_byte : ∀ (size : Nat) (x : Int) (j : Nat), j < size → (beN size x)[j]? = some (u8 (x / 256 ^ (size - 1 - j)))
  | k + 1, x, j, hj => by
    rw [beN]
    by_cases h : j < k
    · rw [List.getElem?_append_left (by rw [beN_len]; exact h), beN_byte k (x / 256) j h, Int.ediv_ediv_of_nonneg (by omega)]
      have e : k + 1 - 1 - j = (k - 1 - j) + 1 := by omega
      rw [e, Int.pow_succ, Int.mul_comm]
    · obtain rfl : j = k := by omega
      rw [List.getElem?_append_right (by rw [beN_len]; exact Nat.le_refl _), beN_len]
      simp
theorem beN_take (size : Nat) (x : Int) (j : Nat) (hj : j < size) : (beN size x).take (size - (j + 1)) ++ [u8 (x / 256 ^ j)] = (beN size x).take (size - j) := by
  have h := beN_byte size x (size - (j + 1)) (by omega)
  rw [show size - 1 - (size - (j + 1)) = j by omega] at h
  rw [show size - j = (size - (j + 1)) + 1 by omega]
  rw [List.take_add_one, h]
  rfl
/-- Where the loops of Wide stand. -/
def WdO (w : World) (size : Nat) (l : List Int) (o i : Value) (wr : World) : Prop :=
  ∃ (k : Nat) (A : Option Addr) (n c : Nat), k ≤ l.length ∧ i = .int .i64 ((k : Nat) : Int) ∧ o = .slice A n c ∧ Hid (n = (wideB size (l.take k)).length) ∧ Own wr w.heap.size 5 (.slice A n c) (bvs (wideB size (l.take k))) ∧ Ext w wr
def WdI (w : World) (size : Nat) (T : List UInt8) (x : Int) (o i : Value) (wr : World) : Prop :=
  ∃ (j : Nat) (A : Option Addr) (n c : Nat), j ≤ size ∧ i = .int .i64 (((j : Nat) : Int) - 1) ∧ o = .slice A n c ∧ Hid (n = (T ++ (beN size x).take (size - j)).length) ∧ Own wr w.heap.size 5 (.slice A n c) (bvs (T ++ (beN size x).take (size - j))) ∧ Ext w wr
theorem take_snocD {l : List Int} {k : Nat} (h : k < l.length) : l.take (k + 1) = l.take k ++ [l.getD k 0] := by
  rw [List.take_succ_eq_append_getElem h]; simp [List.getD_eq_getElem?_getD, h]
set_option maxHeartbeats 2000000 in
theorem wide_any (size : Nat) {v : Value} {l : List Int} (w : World) (h : RdI w .i64 v l) (hs : size ≤ 4) (hl : l.length ≤ 1000) :
    Calls Tryz.prog 48 #[.int .i64 (size : Int), v] w (RetB w (wideB size l)) := by
  obtain ⟨A, n, c, rfl, hn, hnc, hcm, hA⟩ := h.ints
  subst hn
  clear h
  have HW := Lib.hid (fun k => wideB_len size (l.take k))
  have HLT := Lib.hid (fun k => List.length_take_le k l)
  go_enter Tryz.func48, Tryz.ntmps48
  go_wp2_with fail
  go_loopw [5, 7, 8, 11] (fun o _ _ i wr => WdO w size l o i wr) (fun _ _ _ i _ => l.length - (intOf i).toNat)
  case atStart => exact ⟨0, none, 0, 0, Nat.zero_le _, rfl, rfl, rfl, nilB _ _, Below.refl _ _⟩
  case round =>
    obtain ⟨k, A5, n5, c5, hk, rfl, rfl, hn5, o5, b5⟩ := hrel
    by_cases hlt : k < l.length
    · obtain ⟨b, off, rfl, hbl, hc0⟩ := hA (by omega)
      have hc := hc0 k hlt
      have hck := (b5.cell (p := ⟨b, off + k, none⟩) hbl).trans hc
      have hbl2 : b < wr.heap.size := Nat.lt_of_lt_of_le hbl b5.size
      obtain ⟨x, hx⟩ : ∃ x, l.getD k 0 = x := ⟨_, rfl⟩
      rw [hx] at hck
      have HS := Lib.hid (show wideB size (l.take (k + 1)) = wideB size (l.take k) ++ beN size x by rw [take_snocD hlt, wideB_snoc, hx])
      have hT : (wideB size (l.take k)).length ≤ 4000 := by
        have h1 := HW.out k
        have h2 := HLT.out k
        have h3 := Nat.mul_le_mul (show (l.take k).length ≤ 1000 by omega) hs
        omega
      obtain ⟨T, hTe⟩ : ∃ T, wideB size (l.take k) = T := ⟨_, rfl⟩
      rw [hTe] at HS hT hn5 o5
      clear hc hc0 hx hTe
      go_wp2_with fail
      go_loopw [5, 8] (fun o i wx => WdI w size T x o i wx) (fun _ i _ => (intOf i + 1).toNat)
      case atStart => exact ⟨size, _, _, _, Nat.le_refl _, rfl, rfl, (show _ = _ by rw [Nat.sub_self, List.take_zero, List.append_nil]; exact hn5.out), by rw [Nat.sub_self, List.take_zero, List.append_nil]; exact o5, b5⟩
      case round =>
        obtain ⟨j, A6, n6, c6, hj, rfl, rfl, hn6, o6, b6⟩ := hrel
        clear hn5 o5 b5
        cases j with
        | zero =>
          rw [Nat.sub_zero, List.take_of_length_le (by rw [beN_len]; exact Nat.le_refl _)] at o6 hn6
          rw [← HS.out] at o6 hn6
          rw [show ((0 : Nat) : Int) - 1 = -1 from rfl]
          go_wp2_with fail
          go_roundw
          case rel => exact ⟨k + 1, _, _, _, hlt, by go_num, rfl, hn6, o6, b6⟩
          case measure => simp [intOf]; omega
        | succ j =>
          rw [show ((j + 1 : Nat) : Int) - 1 = (j : Int) by omega]
          have hl6 : (T ++ (beN size x).take (size - (j + 1))).length + 1 ≤ 5000 := by
            rw [List.length_append]
            have := List.length_take_le (size - (j + 1)) (beN size x)
            omega
          have hj4 : j = 0 ∨ j = 1 ∨ j = 2 ∨ j = 3 := by omega
          have hbx : w.heap.size ≤ wr.heap.size := b6.size
          have e1 := fun cs => (show Ext wr (wr.alloc (.cells cs 5)) from (Below.refl _ _).alloc (Nat.le_refl _) _)
          rcases hj4 with rfl | rfl | rfl | rfl
          · have HB := Lib.hid (show (beN size x).take (size - (0 + 1)) ++ [Go.Proofs.YtmmoenkmicimcaaGreatDoor.u8 (x)] = (beN size x).take (size - 0) by
              have h := beN_take size x 0 (by omega)
              rw [show (256 : Int) ^ 0 = 1 from rfl] at h
              rw [Int.ediv_one] at h; exact h)
            simp only [Int.cast_ofNat_Int]
            go_wp2_with (refine appB (ys := [Go.Proofs.YtmmoenkmicimcaaGreatDoor.u8 (x)]) (w0 := w) (o6.ext (e1 _)) (Rd.oneZ wr (x)) (b6.tr (e1 _)) (by rw [List.length_singleton]; omega) (by simp; omega) rfl rfl rfl rfl ?_; intro A7 n7 c7 w7 hn7 o7 b7 g7)
            rw [List.append_assoc, HB.out] at o7
            have hn8 := Lib.hid (show n7 = (T ++ (beN size x).take (size - 0)).length by rw [← HB.out, ← List.append_assoc, List.length_append]; exact hn7.out)
            go_roundw
            case rel => exact ⟨0, _, _, _, by omega, by first | rfl | go_num, rfl, hn8, o7, b7⟩
            case measure => simp [intOf]
          · have HB := Lib.hid (show (beN size x).take (size - (1 + 1)) ++ [Go.Proofs.YtmmoenkmicimcaaGreatDoor.u8 (x / 256)] = (beN size x).take (size - 1) by
              have h := beN_take size x 1 (by omega)
              rw [show (256 : Int) ^ 1 = 256 from rfl] at h
              exact h)
            simp only [Int.cast_ofNat_Int]
            go_wp2_with (refine appB (ys := [Go.Proofs.YtmmoenkmicimcaaGreatDoor.u8 (x / 256)]) (w0 := w) (o6.ext (e1 _)) (Rd.oneZ wr (x / 256)) (b6.tr (e1 _)) (by rw [List.length_singleton]; omega) (by simp; omega) rfl rfl rfl rfl ?_; intro A7 n7 c7 w7 hn7 o7 b7 g7)
            rw [List.append_assoc, HB.out] at o7
            have hn8 := Lib.hid (show n7 = (T ++ (beN size x).take (size - 1)).length by rw [← HB.out, ← List.append_assoc, List.length_append]; exact hn7.out)
            go_roundw
            case rel => exact ⟨1, _, _, _, by omega, by first | rfl | go_num, rfl, hn8, o7, b7⟩
            case measure => simp [intOf]
          · have HB := Lib.hid (show (beN size x).take (size - (2 + 1)) ++ [Go.Proofs.YtmmoenkmicimcaaGreatDoor.u8 (x / 65536)] = (beN size x).take (size - 2) by
              have h := beN_take size x 2 (by omega)
              rw [show (256 : Int) ^ 2 = 65536 from rfl] at h
              exact h)
            simp only [Int.cast_ofNat_Int]
            go_wp2_with (refine appB (ys := [Go.Proofs.YtmmoenkmicimcaaGreatDoor.u8 (x / 65536)]) (w0 := w) (o6.ext (e1 _)) (Rd.oneZ wr (x / 65536)) (b6.tr (e1 _)) (by rw [List.length_singleton]; omega) (by simp; omega) rfl rfl rfl rfl ?_; intro A7 n7 c7 w7 hn7 o7 b7 g7)
            rw [List.append_assoc, HB.out] at o7
            have hn8 := Lib.hid (show n7 = (T ++ (beN size x).take (size - 2)).length by rw [← HB.out, ← List.append_assoc, List.length_append]; exact hn7.out)
            go_roundw
            case rel => exact ⟨2, _, _, _, by omega, by first | rfl | go_num, rfl, hn8, o7, b7⟩
            case measure => simp [intOf]
          · have HB := Lib.hid (show (beN size x).take (size - (3 + 1)) ++ [Go.Proofs.YtmmoenkmicimcaaGreatDoor.u8 (x / 16777216)] = (beN size x).take (size - 3) by
              have h := beN_take size x 3 (by omega)
              rw [show (256 : Int) ^ 3 = 16777216 from rfl] at h
              exact h)
            simp only [Int.cast_ofNat_Int]
            go_wp2_with (refine appB (ys := [Go.Proofs.YtmmoenkmicimcaaGreatDoor.u8 (x / 16777216)]) (w0 := w) (o6.ext (e1 _)) (Rd.oneZ wr (x / 16777216)) (b6.tr (e1 _)) (by rw [List.length_singleton]; omega) (by simp; omega) rfl rfl rfl rfl ?_; intro A7 n7 c7 w7 hn7 o7 b7 g7)
            rw [List.append_assoc, HB.out] at o7
            have hn8 := Lib.hid (show n7 = (T ++ (beN size x).take (size - 3)).length by rw [← HB.out, ← List.append_assoc, List.length_append]; exact hn7.out)
            go_roundw
            case rel => exact ⟨3, _, _, _, by omega, by first | rfl | go_num, rfl, hn8, o7, b7⟩
            case measure => simp [intOf]
    · obtain rfl : k = l.length := by omega
      rw [List.take_length] at o5 hn5
      clear hA
      go_wp2_with fail
      go_ret
      exact ⟨_, _, _, rfl, hn5, o5, b5⟩
end Go.Proofs.YtmmoenkmicimcaaGreatDoor
