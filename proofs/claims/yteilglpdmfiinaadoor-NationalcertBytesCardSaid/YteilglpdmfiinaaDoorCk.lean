/- Layer 24: names, days, Check, in both ways. -/
import Derived.Test.YteilglpdmfiinaaDoorCq
import Derived.Test.YteilglpdmfiinaaDoorGs
namespace Go.Proofs.YteilglpdmfiinaaDoor
open Go.RowKit
set_option linter.unusedVariables false
set_option maxRecDepth 100000

theorem nameP_no_short {l : List UInt8} (h : l.length < 1) : decide (nameP l) = false := decide_eq_false fun q => by have := q.1.1; omega
theorem nameP_no_long {l : List UInt8} (h : 16 < l.length) : decide (nameP l) = false := decide_eq_false fun q => by have := q.1.2; omega
theorem nameP_no_head {l : List UInt8} (h : ¬ upI (byteI l 0)) : decide (nameP l) = false := decide_eq_false fun q => h q.2.1
theorem nameP_no_at {l : List UInt8} (i : Nat) (hi : i < l.length) (h : ¬ (upI (byteI l i) ∨ dgI (byteI l i))) : decide (nameP l) = false := decide_eq_false fun q => h (q.2.2 i hi)
theorem nameP_yes {l : List UInt8} (h1 : 1 ≤ l.length) (h2 : l.length ≤ 16) (h3 : upI (byteI l 0)) (h4 : ∀ i, i < l.length → upI (byteI l i) ∨ dgI (byteI l i)) : decide (nameP l) = true := decide_eq_true ⟨⟨h1, h2⟩, h3, h4⟩
theorem byteS {s : ByteArray} {k : Nat} (h : k < s.size) : byteI s.data.toList k = (s[k].toNat : Int) := by
  rw [byteI_get (l := s.data.toList) (by simpa using h)]
  rfl
set_option maxHeartbeats 1000000 in
theorem name_any (s : ByteArray) (w : World) (hs : s.size ≤ maxLen) : Calls Tryd.prog 35 #[.string s] w fun e w' => e = .returned (.bool (decide (nameP s.data.toList))) ∧ w = w' := by
  unfold maxLen at hs
  have hsz : s.data.toList.length = s.size := by simp
  by_cases h1 : s.size < 1
  · have HN := Lib.hid (nameP_no_short (l := s.data.toList) (by omega))
    clear hsz
    go_enter Tryd.func35, Tryd.ntmps35
    go_wp2
    go_ret
    exact ⟨by rw [HN.out]; rfl, rfl⟩
  by_cases h16 : 16 < s.size
  · have HN := Lib.hid (nameP_no_long (l := s.data.toList) (by omega))
    clear hsz
    go_enter Tryd.func35, Tryd.ntmps35
    go_wp2
    go_ret
    exact ⟨by rw [HN.out]; rfl, rfl⟩
  have h0 : 0 < s.size := by omega
  have q0 := byteS h0
  have u0 : (s[0].toNat : Int) < 256 := by have := UInt8.toNat_lt s[0]; omega
  by_cases ha : (s[0].toNat : Int) < 65
  · have HN := Lib.hid (nameP_no_head (l := s.data.toList) (by rw [q0]; unfold upI; omega))
    clear hsz q0
    go_enter Tryd.func35, Tryd.ntmps35
    go_wp2
    go_ret
    exact ⟨by rw [HN.out]; rfl, rfl⟩
  by_cases hb : 90 < (s[0].toNat : Int)
  · have HN := Lib.hid (nameP_no_head (l := s.data.toList) (by rw [q0]; unfold upI; omega))
    clear hsz q0
    go_enter Tryd.func35, Tryd.ntmps35
    go_wp2
    go_ret
    exact ⟨by rw [HN.out]; rfl, rfl⟩
  have HU := Lib.hid (show upI (byteI s.data.toList 0) by rw [q0]; unfold upI; omega)
  have HZ := Lib.hid hsz
  clear hsz q0
  go_enter Tryd.func35, Tryd.ntmps35
  go_wp2
  go_loop [3, 24] (fun _ i => ∃ k : Nat, k ≤ s.size ∧ i = .int .i64 (k : Int) ∧ ∀ j, j < k → upI (byteI s.data.toList j) ∨ dgI (byteI s.data.toList j)) (fun _ i => s.size - (intOf i).toNat)
  case atStart => exact ⟨0, Nat.zero_le _, rfl, fun j hj => absurd hj (by omega)⟩
  case round =>
    obtain ⟨k, hk, rfl, hall⟩ := hrel
    have HA := Lib.hid hall
    clear hall
    by_cases hlt : k < s.size
    · have HQ := Lib.hid (byteS hlt)
      have uk : (s[k].toNat : Int) < 256 := by have := UInt8.toNat_lt s[k]; omega
      have next : upI (s[k].toNat : Int) ∨ dgI (s[k].toNat : Int) → ∀ j, j < k + 1 → upI (byteI s.data.toList j) ∨ dgI (byteI s.data.toList j) := fun h j hj => by
        by_cases hjk : j < k
        · exact HA.out j hjk
        · obtain rfl : j = k := by omega
          rw [HQ.out]; exact h
      have NX := Lib.hid next
      have bad : ¬ (upI (s[k].toNat : Int) ∨ dgI (s[k].toNat : Int)) → decide (nameP s.data.toList) = false := fun h => nameP_no_at k (by rw [HZ.out]; exact hlt) (by rw [HQ.out]; exact h)
      have BD := Lib.hid bad
      clear next bad
      by_cases c1 : (s[k].toNat : Int) < 65
      · by_cases c2 : (s[k].toNat : Int) < 48
        · have HN := Lib.hid (BD.out (by unfold upI dgI; omega))
          go_wp2
          go_ret
          exact ⟨by rw [HN.out]; rfl, rfl⟩
        · by_cases c3 : 57 < (s[k].toNat : Int)
          · have HN := Lib.hid (BD.out (by unfold upI dgI; omega))
            go_wp2
            go_ret
            exact ⟨by rw [HN.out]; rfl, rfl⟩
          · have HN := Lib.hid (NX.out (by unfold upI dgI; omega))
            go_wp2
            go_round
            case rel => exact ⟨k + 1, by omega, by go_num, HN.out⟩
            case measure => simp [intOf]; omega
      · by_cases c2 : 90 < (s[k].toNat : Int)
        · have HN := Lib.hid (BD.out (by unfold upI dgI; omega))
          go_wp2
          go_ret
          exact ⟨by rw [HN.out]; rfl, rfl⟩
        · have HN := Lib.hid (NX.out (by unfold upI dgI; omega))
          go_wp2
          go_round
          case rel => exact ⟨k + 1, by omega, by go_num, HN.out⟩
          case measure => simp [intOf]; omega
    · obtain rfl : k = s.size := by omega
      have HN := Lib.hid (nameP_yes (l := s.data.toList) (by rw [HZ.out]; omega) (by rw [HZ.out]; omega) HU.out (fun i hi => HA.out i (by rw [← HZ.out]; exact hi)))
      go_wp2
      go_ret
      exact ⟨by rw [HN.out]; rfl, rfl⟩
/-- How far the reference has come. -/
def nmTo (l : List UInt8) (k : Nat) : Prop := (∀ j, j < k → upI (byteI l j) ∨ dgI (byteI l j)) ∧ (0 < k → upI (byteI l 0))
set_option maxHeartbeats 1000000 in
theorem refname_any (s : ByteArray) (w : World) (hs : s.size ≤ maxLen) : Calls Tryd.prog 38 #[.string s] w fun e w' => e = .returned (.bool (decide (nameP s.data.toList))) ∧ w = w' := by
  unfold maxLen at hs
  have hsz : s.data.toList.length = s.size := by simp
  have HZ := Lib.hid hsz
  clear hsz
  go_enter Tryd.func38, Tryd.ntmps38
  go_wp2
  go_loop [3, 4] (fun i _ => ∃ k : Nat, k ≤ s.size ∧ i = .int .i64 (k : Int) ∧ nmTo s.data.toList k) (fun i _ => s.size - (intOf i).toNat)
  case atStart => exact ⟨0, Nat.zero_le _, rfl, fun j hj => absurd hj (by omega), fun h => absurd h (by omega)⟩
  case round =>
    obtain ⟨k, hk, rfl, hall⟩ := hrel
    have HA := Lib.hid hall
    clear hall
    by_cases hlt : k < s.size
    · have HQ := Lib.hid (byteS hlt)
      have uk : (s[k].toNat : Int) < 256 := by have := UInt8.toNat_lt s[k]; omega
      have NX := Lib.hid (fun (h : upI (s[k].toNat : Int) ∨ (0 < k ∧ dgI (s[k].toNat : Int))) => (⟨fun j hj => by
        by_cases hjk : j < k
        · exact HA.out.1 j hjk
        · obtain rfl : j = k := by omega
          rw [HQ.out]; exact h.elim .inl (fun q => .inr q.2), fun _ => by
        by_cases h0 : 0 < k
        · exact HA.out.2 h0
        · obtain rfl : k = 0 := by omega
          rw [HQ.out]
          exact h.resolve_right fun q => absurd q.1 (by omega)⟩ : nmTo s.data.toList (k + 1)))
      have B1 := Lib.hid (fun (h : ¬ (upI (s[k].toNat : Int) ∨ dgI (s[k].toNat : Int))) => nameP_no_at (l := s.data.toList) k (by rw [HZ.out]; exact hlt) (by rw [HQ.out]; exact h))
      by_cases c1 : 65 ≤ (s[k].toNat : Int)
      · by_cases c2 : (s[k].toNat : Int) ≤ 90
        · have HN := Lib.hid (NX.out (.inl ⟨c1, c2⟩))
          go_wp2
          go_round
          case rel => exact ⟨k + 1, by omega, by go_num, HN.out⟩
          case measure => simp [intOf]; omega
        · have HN := Lib.hid (B1.out (by unfold upI dgI; omega))
          by_cases h0 : k = 0
          · subst h0
            go_wp2
            go_ret
            exact ⟨by rw [HN.out]; rfl, rfl⟩
          · go_wp2
            go_ret
            exact ⟨by rw [HN.out]; rfl, rfl⟩
      · by_cases h0 : k = 0
        · subst h0
          have HN := Lib.hid (nameP_no_head (l := s.data.toList) (by rw [HQ.out]; unfold upI; omega))
          go_wp2
          go_ret
          exact ⟨by rw [HN.out]; rfl, rfl⟩
        · by_cases c3 : (s[k].toNat : Int) < 48
          · have HN := Lib.hid (B1.out (by unfold upI dgI; omega))
            go_wp2
            go_ret
            exact ⟨by rw [HN.out]; rfl, rfl⟩
          · by_cases c4 : 57 < (s[k].toNat : Int)
            · have HN := Lib.hid (B1.out (by unfold upI dgI; omega))
              go_wp2
              go_ret
              exact ⟨by rw [HN.out]; rfl, rfl⟩
            · have HN := Lib.hid (NX.out (.inr ⟨by omega, by unfold dgI; omega⟩))
              go_wp2
              go_round
              case rel => exact ⟨k + 1, by omega, by go_num, HN.out⟩
              case measure => simp [intOf]; omega
    · obtain rfl : k = s.size := by omega
      by_cases h1 : 1 ≤ s.size
      · by_cases h2 : s.size ≤ 16
        · have HN := Lib.hid ((nameP_yes (l := s.data.toList) (by rw [HZ.out]; omega) (by rw [HZ.out]; omega) (HA.out.2 (by omega)) (fun i hi => HA.out.1 i (by rw [← HZ.out]; exact hi))).trans (decide_eq_true (show (s.size : Int) ≤ 16 by omega)).symm)
          go_wp2
          go_ret
          exact ⟨by rw [HN.out]; rfl, rfl⟩
        · have HN := Lib.hid ((nameP_no_long (l := s.data.toList) (by rw [HZ.out]; omega)).trans (decide_eq_false (show ¬ (s.size : Int) ≤ 16 by omega)).symm)
          go_wp2
          go_ret
          exact ⟨by rw [HN.out]; rfl, rfl⟩
      · have HN := Lib.hid (nameP_no_short (l := s.data.toList) (by rw [HZ.out]; omega))
        go_wp2
        go_ret
        exact ⟨by rw [HN.out]; rfl, rfl⟩
theorem name_tc (l : List UInt8) (w : World) (hl : l.length ≤ 4096) : Calls Tryd.prog 35 #[.string (bstr l)] w fun e w' => e = .returned (.bool (decide (nameP l))) ∧ w = w' :=
  name_any (bstr l) w (by show l.toArray.size ≤ _; unfold maxLen; simp; omega)
theorem refname_tc (l : List UInt8) (w : World) (hl : l.length ≤ 4096) : Calls Tryd.prog 38 #[.string (bstr l)] w fun e w' => e = .returned (.bool (decide (nameP l))) ∧ w = w' :=
  refname_any (bstr l) w (by show l.toArray.size ≤ _; unfold maxLen; simp; omega)
theorem days_any (fr to : Int) (w : World) : Calls Tryd.prog 37 #[.int .i64 fr, .int .i64 to] w fun e w' => e = .returned (.bool (decide (daysP fr to))) ∧ w = w' := by
  by_cases h1 : 0 ≤ fr
  · by_cases h2 : fr ≤ to
    · have HN := Lib.hid (show decide (daysP fr to) = decide (to ≤ 73048) from decide_eq_decide.2 ⟨fun h => h.2.2, fun h => ⟨h1, h2, h⟩⟩)
      go_enter Tryd.func37, Tryd.ntmps37
      go_wp2
      go_ret
      exact ⟨by rw [HN.out]; rfl, rfl⟩
    · have HN := Lib.hid (show decide (daysP fr to) = false from decide_eq_false fun h => h2 h.2.1)
      go_enter Tryd.func37, Tryd.ntmps37
      go_wp2
      go_ret
      exact ⟨by rw [HN.out]; rfl, rfl⟩
  · have HN := Lib.hid (show decide (daysP fr to) = false from decide_eq_false fun h => h1 h.1)
    go_enter Tryd.func37, Tryd.ntmps37
    go_wp2
    go_ret
    exact ⟨by rw [HN.out]; rfl, rfl⟩
def dayP (x : Int) : Prop := 0 ≤ x ∧ x ≤ 73048
instance (x : Int) : Decidable (dayP x) := inferInstanceAs (Decidable (_ ∧ _))
theorem refday_any (x : Int) (w : World) : Calls Tryd.prog 40 #[.int .i64 x] w fun e w' => e = .returned (.bool (decide (dayP x))) ∧ w = w' := by
  by_cases h1 : 0 ≤ x
  · have HN := Lib.hid (show decide (dayP x) = decide (x ≤ 73048) from decide_eq_decide.2 ⟨fun h => h.2, fun h => ⟨h1, h⟩⟩)
    go_enter Tryd.func40, Tryd.ntmps40
    go_wp2
    go_ret
    exact ⟨by rw [HN.out]; rfl, rfl⟩
  · have HN := Lib.hid (show decide (dayP x) = false from decide_eq_false fun h => h1 h.1)
    go_enter Tryd.func40, Tryd.ntmps40
    go_wp2
    go_ret
    exact ⟨by rw [HN.out]; rfl, rfl⟩
end Go.Proofs.YteilglpdmfiinaaDoor
