/- Layer 9: Encode, Decode. -/
import Derived.Test.YtkjplpmogfmhkaaGreatDoorSv
import Derived.Test.YtkjplpmogfmhkaaGreatDoorWg
namespace Go.Proofs.YtkjplpmogfmhkaaGreatDoor
open Go.RowKit
set_option linter.unusedVariables false
set_option maxRecDepth 100000

theorem be4_length (x : Int) : (be4 x).length = 4 := rfl
/-- Where the loop stands. -/
def EncR (w : World) (e s : Int) (v i : Value) (wr : World) : Prop :=
  ∃ A n c, v = .slice A n c ∧ Ext w wr ∧ ((i = .int .i64 0 ∧ Own wr w.heap.size 5 (.slice A n c) (bvs [])) ∨ (i = .int .i64 1 ∧ Own wr w.heap.size 5 (.slice A n c) (bvs (be4 e))) ∨ (i = .int .i64 2 ∧ Hid (n = 8) ∧ Own wr w.heap.size 5 (.slice A n c) (bvs (be4 e ++ be4 s))))
set_option maxHeartbeats 1000000 in
theorem enc_yes (e s : Int) (w : World) (he : inB 0 1073741789 e = true) (hs : inB 0 1073741789 s = true) :
    Calls Tryz.prog 206 #[.agg #[.int .i64 e, .int .i64 s]] w (RetBE w (be4 e ++ be4 s) 0) := by
  obtain ⟨e0, e1⟩ := inB_true he
  obtain ⟨s0, s1⟩ := inB_true hs
  have i0 : ∀ w : World, (Instr.index 255 (.agg #[.int .i64 e, .int .i64 s]) (.int .i64 0)).run Tryz.prog w = .ok (.int .i64 e) w := fun _ => by kernel_rfl
  have i1 : ∀ w : World, (Instr.index 255 (.agg #[.int .i64 e, .int .i64 s]) (.int .i64 1)).run Tryz.prog w = .ok (.int .i64 s) w := fun _ => by kernel_rfl
  have x0 : Ext w (w.alloc (.cells #[.int .i64 e, .int .i64 s] 33)) := (Below.refl _ _).alloc (Nat.le_refl _) _
  go_enter Tryz.func206, Tryz.ntmps206
  go_wp2_with fail
  go_loopw [4, 14] (fun v i wr => EncR w e s v i wr) (fun _ i _ => 2 - (intOf i).toNat)
  case atStart => exact ⟨_, _, _, rfl, x0, .inl ⟨rfl, nilB _ _⟩⟩
  case round =>
    obtain ⟨A, n, c, rfl, b, hrel⟩ := hrel
    rcases hrel with ⟨rfl, o⟩ | ⟨rfl, o⟩ | ⟨rfl, hn, o⟩
    · go_wp2_with (first
        | (go_at_call 249; refine (exponent_any _ _).mono ?_; rw [he]; rintro e' w' ⟨rfl, rfl⟩)
        | (go_at_call 251; refine (oct4_any _ _ (by omega) (by omega)).mono ?_; rintro e' w3 ⟨A3, n3, c3, rfl, hn3, o3, b3⟩)
        | (refine appB (o.ext b3) o3.rd (b.tr b3) (by simp [be4]) (b.tr b3).size rfl rfl rfl rfl ?_; intro A6 n6 c6 w6 hn6 o6 (b6 : Ext _ _) g6))
      go_roundw
      case rel => exact ⟨_, _, _, rfl, b6, .inr (.inl ⟨rfl, by simpa using o6⟩)⟩
      case measure => simp [intOf]
    · go_wp2_with (first
        | (go_at_call 249; refine (exponent_any _ _).mono ?_; rw [hs]; rintro e' w' ⟨rfl, rfl⟩)
        | (go_at_call 251; refine (oct4_any _ _ (by omega) (by omega)).mono ?_; rintro e' w3 ⟨A3, n3, c3, rfl, hn3, o3, b3⟩)
        | (refine appB (o.ext b3) o3.rd (b.tr b3) (by simp [be4]) (b.tr b3).size rfl rfl rfl rfl ?_; intro A6 n6 c6 w6 hn6 o6 (b6 : Ext _ _) g6))
      go_roundw
      case rel => exact ⟨_, _, _, rfl, b6, .inr (.inr ⟨rfl, hn6, o6⟩)⟩
      case measure => simp [intOf]
    · go_wp2_with fail
      go_ret2
      exact ⟨_, _, _, rfl, hn, o, b⟩
set_option maxHeartbeats 1000000 in
theorem enc_no1 (e s : Int) (w : World) (he : inB 0 1073741789 e = false) :
    Calls Tryz.prog 206 #[.agg #[.int .i64 e, .int .i64 s]] w (RetQ w (.tuple #[.slice none 0 0, .int .i64 3])) := by
  have i0 : ∀ w : World, (Instr.index 255 (.agg #[.int .i64 e, .int .i64 s]) (.int .i64 0)).run Tryz.prog w = .ok (.int .i64 e) w := fun _ => by kernel_rfl
  have x0 : Ext w (w.alloc (.cells #[.int .i64 e, .int .i64 s] 33)) := (Below.refl _ _).alloc (Nat.le_refl _) _
  go_enter Tryz.func206, Tryz.ntmps206
  go_wp2_with fail
  go_loopw [4, 14] (fun v i wr => i = .int .i64 0 ∧ Ext w wr) (fun _ i _ => 2 - (intOf i).toNat)
  case atStart => exact ⟨rfl, x0⟩
  case round =>
    obtain ⟨rfl, b⟩ := hrel
    go_wp2_with (go_at_call 249; refine (exponent_any _ _).mono ?_; rw [he]; rintro e' w' ⟨rfl, rfl⟩)
    go_ret2
    exact ⟨rfl, b⟩
def EncR2 (w : World) (e : Int) (v i : Value) (wr : World) : Prop :=
  ∃ A n c, v = .slice A n c ∧ Ext w wr ∧ ((i = .int .i64 0 ∧ Own wr w.heap.size 5 (.slice A n c) (bvs [])) ∨ (i = .int .i64 1 ∧ Own wr w.heap.size 5 (.slice A n c) (bvs (be4 e))))
set_option maxHeartbeats 1000000 in
theorem enc_no2 (e s : Int) (w : World) (he : inB 0 1073741789 e = true) (hs : inB 0 1073741789 s = false) :
    Calls Tryz.prog 206 #[.agg #[.int .i64 e, .int .i64 s]] w (RetQ w (.tuple #[.slice none 0 0, .int .i64 3])) := by
  obtain ⟨e0, e1⟩ := inB_true he
  have i0 : ∀ w : World, (Instr.index 255 (.agg #[.int .i64 e, .int .i64 s]) (.int .i64 0)).run Tryz.prog w = .ok (.int .i64 e) w := fun _ => by kernel_rfl
  have i1 : ∀ w : World, (Instr.index 255 (.agg #[.int .i64 e, .int .i64 s]) (.int .i64 1)).run Tryz.prog w = .ok (.int .i64 s) w := fun _ => by kernel_rfl
  have x0 : Ext w (w.alloc (.cells #[.int .i64 e, .int .i64 s] 33)) := (Below.refl _ _).alloc (Nat.le_refl _) _
  go_enter Tryz.func206, Tryz.ntmps206
  go_wp2_with fail
  go_loopw [4, 14] (fun v i wr => EncR2 w e v i wr) (fun _ i _ => 2 - (intOf i).toNat)
  case atStart => exact ⟨_, _, _, rfl, x0, .inl ⟨rfl, nilB _ _⟩⟩
  case round =>
    obtain ⟨A, n, c, rfl, b, hrel⟩ := hrel
    rcases hrel with ⟨rfl, o⟩ | ⟨rfl, o⟩
    · go_wp2_with (first
        | (go_at_call 249; refine (exponent_any _ _).mono ?_; rw [he]; rintro e' w' ⟨rfl, rfl⟩)
        | (go_at_call 251; refine (oct4_any _ _ (by omega) (by omega)).mono ?_; rintro e' w3 ⟨A3, n3, c3, rfl, hn3, o3, b3⟩)
        | (refine appB (o.ext b3) o3.rd (b.tr b3) (by simp [be4]) (b.tr b3).size rfl rfl rfl rfl ?_; intro A6 n6 c6 w6 hn6 o6 (b6 : Ext _ _) g6))
      go_roundw
      case rel => exact ⟨_, _, _, rfl, b6, .inr ⟨rfl, by simpa using o6⟩⟩
      case measure => simp [intOf]
    · go_wp2_with (go_at_call 249; refine (exponent_any _ _).mono ?_; rw [hs]; rintro e' w' ⟨rfl, rfl⟩)
      go_ret2
      exact ⟨rfl, b⟩
set_option maxHeartbeats 1000000 in
theorem refenc_yes (e s : Int) (w : World) (he : inB 0 1073741789 e = true) (hs : inB 0 1073741789 s = true) :
    Calls Tryz.prog 210 #[.agg #[.int .i64 e, .int .i64 s]] w (RetRE w (be4 e ++ be4 s) 0) := by
  have x0 : Ext w (w.alloc (.cells #[.int .i64 e, .int .i64 s] 33)) := (Below.refl _ _).alloc (Nat.le_refl _) _
  have Ec : ∀ W, Ext (w.alloc (.cells #[.int .i64 e, .int .i64 s] 33)) W → W.cell? ⟨w.heap.size, 0, none⟩ = some (.int .i64 e) ∧ W.cell? ⟨w.heap.size, 1, none⟩ = some (.int .i64 s) := fun W h =>
    ⟨(h.cell (p := ⟨w.heap.size, 0, none⟩) (by simp)).trans (by go_simp), (h.cell (p := ⟨w.heap.size, 1, none⟩) (by simp)).trans (by go_simp)⟩
  have EC := Lib.hid Ec
  clear Ec
  go_enter Tryz.func210, Tryz.ntmps210
  go_wp2_with fail
  refine (small_any _ _).mono ?_
  rw [he]
  rintro e' w' ⟨rfl, rfl⟩
  go_wp2_with fail
  refine (small_any _ _).mono ?_
  rw [hs]
  rintro e' w' ⟨rfl, rfl⟩
  go_wp2_with fail
  refine Gd.wp_region_X 7 (by kernel_rfl) (by kernel_rfl) ?_
  simp only [List.take_succ_cons, List.take_zero, List.drop_succ_cons, List.drop_zero]
  intro w1 hw1
  have L : ∀ m : Lt w1, Ext (w.alloc (.cells #[.int .i64 e, .int .i64 s] 33)) m.1 := fun m => hw1.tr m.2
  have q0 : ∀ m : Lt w1, m.1.cell? ⟨w.heap.size, 0, none⟩ = some (.int .i64 e) := fun m => (EC.out _ (L m)).1
  have q1 : ∀ m : Lt w1, m.1.cell? ⟨w.heap.size, 1, none⟩ = some (.int .i64 s) := fun m => (EC.out _ (L m)).2
  repeat (refine Gd.wpX_pure (by first | exact trivial | exact ⟨_, rfl, rfl, rfl⟩) rfl rfl rfl rfl rfl (fun K hK => ?_); go_big_quiet_op; refine hK _ ?_; clear hK K)
  refine Gd.wpX_callHole (by first | exact trivial | exact ⟨_, rfl, rfl, rfl⟩) (GB (be4 e)) (stable_GB _) rfl rfl rfl rfl (by kernel_rfl) rfl rfl (fun m => (four_any _ _).mono fun _ _ h => h.gb) ?_
  simp only [Act.put, List.setIfInBounds_toArray, List.set_cons_zero, List.set_cons_succ]
  repeat (refine Gd.wpX_pure (by first | exact trivial | exact ⟨_, rfl, rfl, rfl⟩) rfl rfl rfl rfl rfl (fun K hK => ?_); go_big_quiet_op; refine hK _ ?_; clear hK K)
  refine Gd.wpX_callHole (by first | exact trivial | exact ⟨_, rfl, rfl, rfl⟩) (GB (be4 s)) (stable_GB _) rfl rfl rfl rfl (by kernel_rfl) rfl rfl (fun m => (four_any _ _).mono fun _ _ h => h.gb) ?_
  simp only [Act.put, List.setIfInBounds_toArray, List.set_cons_zero, List.set_cons_succ]
  refine Gd.wpX_callL (by first | exact trivial | exact ⟨_, rfl, rfl, rfl⟩) (GB (be4 e ++ be4 s)) (stable_GB _) (fun f => [f 16, f 19]) rfl rfl rfl rfl (fun f => rfl) (by kernel_rfl) (fun f => rfl) (fun m f hf => by
    obtain ⟨A1, n1, c1, h1, hn1, r1⟩ := hf 16 _ rfl rfl
    obtain ⟨A2, n2, c2, h2, hn2, r2⟩ := hf 19 _ rfl rfl
    rw [h1, h2]
    exact (join_any _ r1 r2 (by simp [be4])).mono fun _ _ h => h.gb) ?_
  simp only [Act.put, List.setIfInBounds_toArray, List.set_cons_zero, List.set_cons_succ]
  refine Gd.wpX_end3 (by decide) (by decide) (by decide) (fun m u1 u2 u3 hu1 hu2 hu3 => ?_)
  simp only [Act.put, List.setIfInBounds_toArray, List.set_cons_zero, List.set_cons_succ]
  obtain ⟨A5, n5, c5, rfl, hn5, r5⟩ := hu3
  have Lm := L m
  obtain ⟨wy, hwy⟩ := m
  clear L q0 q1
  go_wp2_with fail
  go_ret2
  exact ⟨_, _, _, rfl, hn5, r5, x0.tr Lm⟩
theorem refenc_no (e s : Int) (w : World) (h : ¬ (inB 0 1073741789 e = true ∧ inB 0 1073741789 s = true)) :
    Calls Tryz.prog 210 #[.agg #[.int .i64 e, .int .i64 s]] w (RetQ w (.tuple #[.slice none 0 0, .int .i64 3])) := by
  have x0 : Ext w (w.alloc (.cells #[.int .i64 e, .int .i64 s] 33)) := (Below.refl _ _).alloc (Nat.le_refl _) _
  by_cases he : inB 0 1073741789 e = true
  · have hs : inB 0 1073741789 s = false := not_true fun hs => h ⟨he, hs⟩
    clear h
    go_enter Tryz.func210, Tryz.ntmps210
    go_wp2_with fail
    refine (small_any _ _).mono ?_
    rw [he]
    rintro e' w' ⟨rfl, rfl⟩
    go_wp2_with fail
    refine (small_any _ _).mono ?_
    rw [hs]
    rintro e' w' ⟨rfl, rfl⟩
    go_wp2_with fail
    go_ret2
    exact ⟨rfl, x0⟩
  · have he' := not_true he
    clear h
    go_enter Tryz.func210, Tryz.ntmps210
    go_wp2_with fail
    refine (small_any _ _).mono ?_
    rw [he']
    rintro e' w' ⟨rfl, rfl⟩
    go_wp2_with fail
    go_ret2
    exact ⟨rfl, x0⟩
def encB (e s : Int) : List UInt8 := if inB 0 1073741789 e = true ∧ inB 0 1073741789 s = true then be4 e ++ be4 s else []
def encK (e s : Int) : Int := if inB 0 1073741789 e = true ∧ inB 0 1073741789 s = true then 0 else 3
theorem enc_any (e s : Int) (w : World) : Calls Tryz.prog 206 #[.agg #[.int .i64 e, .int .i64 s]] w (RetRE w (encB e s) (encK e s)) := by
  unfold encB encK
  by_cases h : inB 0 1073741789 e = true ∧ inB 0 1073741789 s = true
  · rw [if_pos h, if_pos h]
    exact (enc_yes e s w h.1 h.2).mono fun _ _ ⟨A, n, c, h1, h2, h3, h4⟩ => ⟨A, n, c, h1, h2, h3.rd, h4⟩
  · rw [if_neg h, if_neg h]
    have key : Calls Tryz.prog 206 #[.agg #[.int .i64 e, .int .i64 s]] w (RetQ w (.tuple #[.slice none 0 0, .int .i64 3])) := by
      by_cases he : inB 0 1073741789 e = true
      · exact enc_no2 e s w he (not_true fun hs => h ⟨he, hs⟩)
      · exact enc_no1 e s w (not_true he)
    exact key.mono fun _ _ ⟨h1, h2⟩ => ⟨_, _, _, h1, (show _ = _ from rfl), Rd.nil_ _, h2⟩
theorem refenc_any (e s : Int) (w : World) : Calls Tryz.prog 210 #[.agg #[.int .i64 e, .int .i64 s]] w (RetRE w (encB e s) (encK e s)) := by
  unfold encB encK
  by_cases h : inB 0 1073741789 e = true ∧ inB 0 1073741789 s = true
  · rw [if_pos h, if_pos h]
    exact refenc_yes e s w h.1 h.2
  · rw [if_neg h, if_neg h]
    exact (refenc_no e s w h).mono fun _ _ ⟨h1, h2⟩ => ⟨_, _, _, h1, (show _ = _ from rfl), Rd.nil_ _, h2⟩
end Go.Proofs.YtkjplpmogfmhkaaGreatDoor
