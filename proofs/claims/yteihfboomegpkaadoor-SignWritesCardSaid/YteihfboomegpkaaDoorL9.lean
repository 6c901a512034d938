/- The walks of the laws 09. -/
import Derived.Test.YteihfboomegpkaaDoorSv
import Derived.Test.YteihfboomegpkaaDoorGa
import Derived.Test.YteihfboomegpkaaDoorWg
namespace Go.Proofs.YteihfboomegpkaaDoor
open Go.RowKit
set_option linter.unusedVariables false
set_option maxRecDepth 100000

/-- A signature is right under the public key of its secret. -/
theorem sig_verifies {k : Int} (h0 : 1 ≤ k) (h1 : k < 1073741789) (l : List UInt8) : verB (pw 4 k) l (sigE k l) (sigS k l) = true := by
  obtain ⟨e0, e1⟩ := sigE_bd k l
  obtain ⟨s0, s1⟩ := sigS_bd k l
  obtain ⟨n0, n1⟩ := sigN_bd k l
  rw [verB_eq (pub_elem h0 h1) (inB_yes e0 e1) (inB_yes s0 s1)]
  have key : pw 4 (sigS k l) * pw (pw 4 k) (1073741789 - sigE k l) % 2147483579 = pw 4 (sigN k l) := by
    have hs : sigS k l = (sigN k l + sigE k l * k) % 1073741789 := rfl
    generalize sigE k l = e at *
    generalize sigN k l = n at *
    rw [hs]
    obtain ⟨k', rfl⟩ := Int.eq_ofNat_of_zero_le (show 0 ≤ k by omega)
    obtain ⟨e', rfl⟩ := Int.eq_ofNat_of_zero_le e0
    obtain ⟨n', rfl⟩ := Int.eq_ofNat_of_zero_le (show 0 ≤ n by omega)
    have h := sig_back (k := k') (n := n') (e := e') (by omega) (by omega) (by omega)
    have c1 : ((n' : Int) + (e' : Int) * (k' : Int)) % 1073741789 = (((n' + e' * k') % 1073741789 : Nat) : Int) := by simp
    have c2 : (1073741789 : Int) - (e' : Int) = ((1073741789 - e' : Nat) : Int) := by omega
    rw [c1, c2, show (4 : Int) = ((4 : Nat) : Int) from rfl, pw_nat, pw_nat, pw_nat, pw_nat, ← h]
    simp
  rw [key]
  simp only [sigE, beq_self_eq_true]
theorem rdA (w : World) : Rd (w.alloc (.cells #[.int .u8 97] 5 (1, 2))) (.slice (some ⟨w.heap.size, 0, none⟩) 1 1) (bvs [97]) := Rd.litM w _ _ _ 1 rfl (by unfold maxLen; omega)
set_option maxHeartbeats 1000000 in
theorem awake9_any (w : World) (E : KTab w 0) : Calls Tryd.prog 42 #[] w (RetQ w (.bool true)) := by
  have kc := fun (w : World) (C : Array Value) (n c : Nat) => Lib.run_convert_bytes_const (P := Tryd.prog) w 22 5 C n c Tryd.underlying22 Tryd.underlying5
  have hin5 : inB 1 1073741789 5 = true := inB_yes (by omega) (by omega)
  have e0 : Ext w (w.alloc (.cells #[.int .u8 97] 5 (1, 2))) := (Below.refl _ _).alloc (Nat.le_refl _) _
  have V := Lib.hid (sig_verifies (k := 5) (by omega) (by omega) [97])
  go_enter Tryd.func42, Tryd.ntmps42
  go_wp2_with fail
  refine (sign_yes (l := [97]) _ _ hin5 (rdA w) (by simp) (E.below e0)).mono ?_
  rintro e w1 ⟨rfl, b1⟩
  unfold sgV
  go_wp2_with fail
  refine (refpublic_yes _ _ hin5).mono ?_
  rintro e w' ⟨rfl, rfl⟩
  have ea : Ext w1 (w1.alloc (.cells #[.int .i64 (sigE 5 [97]), .int .i64 (sigS 5 [97])] 47)) := (Below.refl _ _).alloc (Nat.le_refl _) _
  have c0 : (w1.alloc (.cells #[.int .i64 (sigE 5 [97]), .int .i64 (sigS 5 [97])] 47)).cell? ⟨w1.heap.size, 0, none⟩ = some (.int .i64 (sigE 5 [97])) := by go_simp
  have c1 : (w1.alloc (.cells #[.int .i64 (sigE 5 [97]), .int .i64 (sigS 5 [97])] 47)).cell? ⟨w1.heap.size, 1, none⟩ = some (.int .i64 (sigS 5 [97])) := by go_simp
  have hl : w1.heap.size < (w1.alloc (.cells #[.int .i64 (sigE 5 [97]), .int .i64 (sigS 5 [97])] 47)).heap.size := by simp
  generalize w1.alloc (.cells #[.int .i64 (sigE 5 [97]), .int .i64 (sigS 5 [97])] 47) = wa at *
  have e2 : Ext wa (wa.alloc (.cells #[.int .u8 97] 5 (1, 2))) := (Below.refl _ _).alloc (Nat.le_refl _) _
  have e02 := ((e0.tr b1).tr ea).tr e2
  go_wp2_with fail
  refine (verify_any (l := [97]) _ _ _ _ (rdA wa) (by simp) (E.below e02)).mono ?_
  rw [V.out]
  rintro e w3 ⟨rfl, b3⟩
  have e4 : Ext w3 (w3.alloc (.cells #[.int .u8 97] 5 (1, 2))) := (Below.refl _ _).alloc (Nat.le_refl _) _
  have c03 : (w3.alloc (.cells #[.int .u8 97] 5 (1, 2))).cell? ⟨w1.heap.size, 0, none⟩ = some (.int .i64 (sigE 5 [97])) := (((e2.tr b3).tr e4).cell (p := ⟨w1.heap.size, 0, none⟩) hl).trans c0
  have c13 : (w3.alloc (.cells #[.int .u8 97] 5 (1, 2))).cell? ⟨w1.heap.size, 1, none⟩ = some (.int .i64 (sigS 5 [97])) := (((e2.tr b3).tr e4).cell (p := ⟨w1.heap.size, 1, none⟩) hl).trans c1
  have e04 := (e02.tr b3).tr e4
  go_wp2_with fail
  refine (verify_any (l := [97]) _ _ _ _ (rdA w3) (by simp) (E.below e04)).mono ?_
  rw [verB_p isElem_one]
  rintro e w5 ⟨rfl, b5⟩
  go_wp2_with fail
  go_ret
  exact ⟨rfl, e04.tr b5⟩
end Go.Proofs.YteihfboomegpkaaDoor
