/- Parts Ql of the proof. -/
import Derived.Test.YthbpdhanljpigaaGreatDoorVao
import Derived.Deep.MidRow
namespace Go.Proofs.YthbpdhanljpigaaGreatDoor
open Go.RowKit
set_option linter.unusedVariables false
set_option maxRecDepth 100000
theorem grpG_at : ∀ (l : List Int) (t : Int) (k i : Nat), (∀ j, j < i → l.getD j 0 ≠ t) → i < l.length → l.getD i 0 = t → grpG l t k = ((k + i : Nat) : Int) + 1
  | [], _, _, _, _, h, _ => by simp at h
  | x :: l, t, k, 0, _, _, h => by
    have h : x = t := h
    unfold grpG
    rw [if_pos h, Nat.add_zero]
  | x :: l, t, k, i + 1, hj, hi, h => by
    have h0 : x ≠ t := hj 0 (by omega)
    unfold grpG
    rw [if_neg h0, grpG_at l t (k + 1) i (fun j h2 => hj (j + 1) (by omega)) (by simpa using hi) h]
    omega
theorem grpG_none : ∀ (l : List Int) (t : Int) (k : Nat), (∀ j, j < l.length → l.getD j 0 ≠ t) → grpG l t k = 0
  | [], _, _, _ => rfl
  | x :: l, t, k, hj => by
    have h0 : x ≠ t := hj 0 (by simp)
    unfold grpG
    rw [if_neg h0, grpG_none l t (k + 1) fun j h => hj (j + 1) (by simpa using h)]
theorem grpX_at {t : Int} {i : Nat} (h : ∀ j, j < i → grpT.getD j 0 ≠ t) (hi : i < 18) (he : grpT.getD i 0 = t) : grpX t = (i : Int) + 1 := by
  have := grpG_at grpT t 0 i h hi he
  rwa [Nat.zero_add] at this
theorem grpX_none {t : Int} (h : ∀ j, j < 18 → grpT.getD j 0 ≠ t) : grpX t = 0 := grpG_none grpT t 0 h
/-- The error beside a group's number. -/
def grpE (t : Int) : Int := if grpX t = 0 then 4 else 0
theorem grpE_at {t : Int} {i : Nat} (h : grpX t = (i : Int) + 1) : grpE t = 0 := if_neg (by omega)
theorem grpE_none {t : Int} (h : grpX t = 0) : grpE t = 4 := if_pos h
def GrpR (w : World) (t : Int) (e : Ending) (w' : World) : Prop := e = .returned (.tuple #[.int .i64 (grpX t), .int .i64 (grpE t)]) ∧ w = w'
theorem gtab_range {w : World} {g : Nat} (h : GTab w g) : w.rangeAt g 0 (grpT.map (Value.int .i64)) := fun j v hj => by
  rw [List.getElem?_map, Option.map_eq_some_iff] at hj
  obtain ⟨z, hz, rfl⟩ := hj
  have hl := (List.getElem?_eq_some_iff.1 hz).1
  rw [Nat.zero_add, h j hl, List.getD_eq_getElem?_getD, hz]
  rfl
theorem info_tags : (Tryz.prog.info? 101).map (·.size) = some (grpT.map (Value.int .i64)).length := by kernel_rfl
theorem under_tags : Tryz.prog.underlying 101 = some (.array 18 3) := Tryz.underlying101
theorem run_indexT {T : List Value} {z : Int} (k : Nat) (W : World) (hk : k < 18) (h : T[k]? = some (.int .i64 z)) : (Instr.index 101 (.agg T.toArray) (.int .i64 (k : Int))).run Tryz.prog W = .ok (.int .i64 z) W := by
  have c1 : Tryz.prog.cellsOf 3 = 1 := by kernel_rfl
  simp [Instr.index, run_underlying under_tags, asIntOf, go_sem, hk, h]
set_option maxHeartbeats 2000000 in
theorem group_any (t : Int) (w : World) (G : GTab w 1) : Calls Tryz.prog 94 #[.int .i64 t] w (GrpR w t) := by
  have HR := Lib.hid (gtab_range G)
  obtain ⟨T, hT⟩ : ∃ T, T = (grpT.map (Value.int .i64)) := ⟨_, rfl⟩
  have HTT := Lib.hid hT
  rw [← hT] at HR
  have HI := Lib.hid (show (Tryz.prog.info? 101).map (·.size) = some T.length by rw [hT]; exact info_tags)
  have HTL := Lib.hid (fun (j : Nat) (hj : j < 18) => (show T[j]? = some (.int .i64 (grpT.getD j 0)) by
    rw [hT]
    have h2 : j < grpT.length := hj
    simp [List.getD_eq_getElem?_getD, h2]))
  clear hT G
  go_enter Tryz.func94, Tryz.ntmps94
  go_wp2_with (refine wpList_load_mid rfl 101 _ rfl 1 0 rfl T _ HR.out Tryz.underlying101 rfl HI.out ?_)
  go_loopw [4, 5, 7] (fun _ _ i wr => ∃ k : Nat, k ≤ 18 ∧ i = .int .i64 (k : Int) ∧ Hid (∀ j, j < k → grpT.getD j 0 ≠ t) ∧ w = wr) (fun _ _ i _ => 18 - (intOf i).toNat)
  case atStart => exact ⟨0, by omega, rfl, Lib.hid (fun j h => by omega), rfl⟩
  case round =>
    obtain ⟨k, hk, rfl, HN, rfl⟩ := hrel
    by_cases hlt : k < 18
    · have hlt' : (k : Int) < 18 := by omega
      have l0 := run_indexT k w hlt (HTL.out k hlt)
      obtain ⟨x, hx⟩ : ∃ x, grpT.getD k 0 = x := ⟨_, rfl⟩
      rw [hx] at l0
      have wi1 : IntKind.i64.wrap ((k : Int)) = (k : Int) := IntWalk.i64_in _ (by omega)
      have zi1 : (0 : Int) ≤ (k : Int) := by omega
      have li1 : (k : Int) < (18 : Int) := by omega
      have ti1 : ((k : Int)).toNat = k := by omega
      have ww : IntKind.i64.wrap ((k : Int) + 1) = (k : Int) + 1 := IntWalk.i64_in _ (by omega)
      by_cases hq : x = t
      · have hb : (x == t) = true := by simp [hq]
        have HX := Lib.hid (grpX_at HN.out hlt (hx.trans hq))
        have HE := Lib.hid (grpE_at HX.out)
        clear hq hx
        go_wp2_with fail
        go_ret2
        exact ⟨by rw [HX.out, HE.out]; rfl, rfl⟩
      · have hb : (x == t) = false := by simp [hq]
        have HX := Lib.hid (hx ▸ hq : grpT.getD k 0 ≠ t)
        clear hq hx
        go_wp2_with fail
        go_roundw
        case rel => repeat (first | exact ⟨k + 1, by omega, by go_num, Lib.hid (fun j hj => by
          by_cases h : j = k
          · subst h; exact HX.out
          · exact HN.out j (by omega)), trivial⟩ | refine ⟨_, ?_⟩)
        case measure => simp [intOf]; omega
    · obtain rfl : k = 18 := by omega
      have HX := Lib.hid (grpX_none HN.out)
      have HE := Lib.hid (grpE_none HX.out)
      go_wp2_with fail
      go_ret2
      exact ⟨by rw [HX.out, HE.out]; rfl, rfl⟩
set_option maxHeartbeats 2000000 in
theorem refgroup_any (t : Int) (w : World) (G : GTab w 0) : Calls Tryz.prog 103 #[.int .i64 t] w (GrpR w t) := by
  have HG := Lib.hid G
  clear G
  go_enter Tryz.func103, Tryz.ntmps103
  go_wp2
  go_loopw [4] (fun i wr => ∃ k : Nat, k ≤ 18 ∧ i = .int .i64 (k : Int) ∧ Hid (∀ j, j < k → grpT.getD j 0 ≠ t) ∧ w = wr) (fun i _ => 18 - (intOf i).toNat)
  case atStart => exact ⟨0, by omega, rfl, Lib.hid (fun j h => by omega), rfl⟩
  case round =>
    obtain ⟨k, hk, rfl, HN, rfl⟩ := hrel
    by_cases hlt : k < 18
    · have hlt' : (k : Int) < 18 := by omega
      have l0 := HG.out k hlt
      obtain ⟨x, hx⟩ : ∃ x, grpT.getD k 0 = x := ⟨_, rfl⟩
      rw [hx] at l0
      have wi2 : IntKind.i64.wrap ((k : Int)) = (k : Int) := IntWalk.i64_in _ (by omega)
      have zi2 : (0 : Int) ≤ (k : Int) := by omega
      have li2 : (k : Int) < (18 : Int) := by omega
      have ti2 : ((k : Int)).toNat = k := by omega
      have ww : IntKind.i64.wrap ((k : Int) + 1) = (k : Int) + 1 := IntWalk.i64_in _ (by omega)
      by_cases hq : x = t
      · have hb : (x == t) = true := by simp [hq]
        have HX := Lib.hid (grpX_at HN.out hlt (hx.trans hq))
        have HE := Lib.hid (grpE_at HX.out)
        clear hq hx
        go_wp2_with fail
        go_ret2
        exact ⟨by rw [HX.out, HE.out]; rfl, rfl⟩
      · have hb : (x == t) = false := by simp [hq]
        have HX := Lib.hid (hx ▸ hq : grpT.getD k 0 ≠ t)
        clear hq hx
        go_wp2_with fail
        go_roundw
        case rel => repeat (first | exact ⟨k + 1, by omega, by go_num, Lib.hid (fun j hj => by
          by_cases h : j = k
          · subst h; exact HX.out
          · exact HN.out j (by omega)), trivial⟩ | refine ⟨_, ?_⟩)
        case measure => simp [intOf]; omega
    · obtain rfl : k = 18 := by omega
      have HX := Lib.hid (grpX_none HN.out)
      have HE := Lib.hid (grpE_none HX.out)
      go_wp2_with fail
      go_ret2
      exact ⟨by rw [HX.out, HE.out]; rfl, rfl⟩
theorem datagroups_tag (k : Nat) (z : Int) (hz : z = (k : Int) + 1) (w : World) (hk : k < 18) (G : GTab w 1) : Calls Tryz.prog 119 #[.int .i64 z] w fun e w' => e = .returned (.tuple #[.int .i64 (grpT.getD k 0), .int .i64 0]) ∧ w = w' := by
  have l0 := G k hk
  clear G
  have h1 : ¬ z < 1 := by omega
  have h2 : ¬ 18 < z := by omega
  have ww : IntKind.i64.wrap (z - 1) = (k : Int) := by rw [show z - 1 = (k : Int) by omega]; exact IntWalk.i64_in _ (by omega)
  have h3 : (k : Int) < 18 := by omega
  clear hz
  go_enter Tryz.func119, Tryz.ntmps119
  go_wp2
  go_ret2
  exact ⟨rfl, rfl⟩
theorem traveldocref15_tag (k : Nat) (z : Int) (hz : z = (k : Int) + 1) (w : World) (hk : k < 18) (G : GTab w 0) : Calls Tryz.prog 121 #[.int .i64 z] w fun e w' => e = .returned (.tuple #[.int .i64 (grpT.getD k 0), .int .i64 0]) ∧ w = w' := by
  have l0 := G k hk
  clear G
  have h1 : ¬ z < 1 := by omega
  have h2 : ¬ 18 < z := by omega
  have ww : IntKind.i64.wrap (z - 1) = (k : Int) := by rw [show z - 1 = (k : Int) by omega]; exact IntWalk.i64_in _ (by omega)
  have h3 : (k : Int) < 18 := by omega
  clear hz
  go_enter Tryz.func121, Tryz.ntmps121
  go_wp2
  go_ret2
  exact ⟨rfl, rfl⟩
end Go.Proofs.YthbpdhanljpigaaGreatDoor
