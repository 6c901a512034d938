/- Parts Xg of the proof. -/
import Derived.Test.YthbpdhanljpigaaGreatDoorVay
import Derived.Test.YthbpdhanljpigaaGreatDoorVbc
import Derived.Test.YthbpdhanljpigaaGreatDoorVam
import Derived.Test.YthbpdhanljpigaaGreatDoorVao
namespace Go.Proofs.YthbpdhanljpigaaGreatDoor
open Go.RowKit
set_option linter.unusedVariables false
set_option maxRecDepth 100000
theorem bsf0_any (z : Int) (fv : Value) (w : World) : Calls Tryz.prog 41 #[.slice none 0 0, .int .i64 z, fv] w (RetQ w (.tuple #[.int .i64 0, .bool false])) := by
  go_enter Tryz.func41, Tryz.ntmps41
  go_wp2_with fail
  go_loopw [9, 10, 11] (fun i j _ wr => i = .int .i64 0 ∧ j = .int .i64 0 ∧ Hid (Ext w wr)) (fun _ _ _ _ => 0)
  case atStart => exact ⟨rfl, rfl, Lib.hid (Below.refl _ _)⟩
  case round =>
  obtain ⟨rfl, rfl, E⟩ := hrel
  go_wp2_with fail
  go_ret2
  exact ⟨rfl, E.out⟩
theorem ins0_any {p : (Int × List UInt8) × Value} {A0 : Option Addr} {n0 c0 : Nat} (w : World) (hr : RdK w 2 (.slice A0 n0 c0) (hsCells p)) (h1 : p.2.oneCell' = true) : Calls Tryz.prog 43 #[.slice none 0 0, .int .i64 0, .slice A0 n0 c0] w
    fun e w' => ∃ A n c, e = .returned (.slice A n c) ∧ Hid (n = 1) ∧ OwnK w' w.heap.size 72 2 (.slice A n c) (hsCells p) ∧ Ext w w' := by
  obtain rfl : n0 = 1 := by
    obtain ⟨_, _, _, e, hn, _⟩ := hr
    injection e with _ e1 _
    subst e1
    change n0 * 2 = 2 at hn
    omega
  have HR := Lib.hid hr
  clear hr
  go_enter Tryz.func43, Tryz.ntmps43
  go_wp2_with (refine appHs (B := w.heap.size) (ps := []) (p := p) (OwnK.empty _ _ _ _ _) rfl HR.out h1 (by simp) (Nat.le_refl _) rfl rfl rfl rfl ?_; intro A8 n8 c8 w8 hn8 o8 g8 hge)
  go_ret
  exact ⟨A8, n8, c8, rfl, hn8, o8, (Below.refl w.heap.size w).grown g8 (Nat.le_refl _) (fun k hk => by simp [rowOf] at hk)⟩
/-- What Hashes answers. -/
def HsQ (w : World) (r : Except Int (List (Int × List UInt8))) (en : Ending) (w' : World) : Prop := Ext w w' ∧
  ((∃ k, r = .error k ∧ k ≠ 0 ∧ en = .returned (.tuple #[.slice none 0 0, .int .i64 k])) ∨
   (∃ hs A n c, r = .ok hs ∧ en = .returned (.tuple #[.slice A n c, .int .i64 0]) ∧ HsRd w' (.slice A n c) hs))
theorem hs1_err {f : List UInt8} {k : Int} (h : opnX f = .error k) : hs1X f = .error k := by unfold hs1X; rw [h]
theorem hs1_big {f : List UInt8} {n : Int} {ks : List Nd} (h : opnX f = .ok (n, ks)) (hn : 16 < n) : hs1X f = .error 3 := by unfold hs1X; rw [h]; exact if_pos hn
theorem hs1_ok {f : List UInt8} {n : Int} {ks : List Nd} (h : opnX f = .ok (n, ks)) (hn : ¬ 16 < n) : hs1X f = .ok [(n, sha f)] := by unfold hs1X; rw [h]; exact if_neg hn
set_option maxHeartbeats 4000000 in
theorem hashes1_any {v u : Value} {f : List UInt8} (w : World) (hv : Rd w v [u]) (hu : Rd w u (bvs f)) (hf : f.length ≤ 1000000) (G : GTab w 1) (K : KTab w 2) : Calls Tryz.prog 12 #[v] w (HsQ w (hs1X f)) := by
  obtain ⟨A0, n0, c0, rfl, hn0, hnc0, hcm0, hc0⟩ := hv
  obtain rfl : n0 = 1 := hn0
  obtain ⟨b0, o0, rfl, hcell⟩ := hc0 (by omega)
  have z0 := hcell 0 u rfl
  rw [Nat.add_zero] at z0
  have hbl := World.block_lt_of_cell? w _ z0
  obtain ⟨Af, nf, cf, rfl, hnf, _⟩ := hu.bytes
  subst hnf
  have CU := Lib.hid (show ∀ W, Ext w W → W.cell? ⟨b0, o0, none⟩ = some (.slice Af f.length cf) from fun W e => (e.cell (p := ⟨b0, o0, none⟩) hbl).trans z0)
  have HO := Lib.hid (fun W (e : Ext w W) => open16_any W (hu.ext e) (by omega) (G.ext e))
  have HD := Lib.hid (fun W (e : Ext w W) => digsum_any W (hu.ext e) (by omega) (K.below e))
  unfold maxLen at hcm0
  clear hcell hc0 hu G K z0 hbl
  go_enter Tryz.func12, Tryz.ntmps12
  go_wp2_with fail
  go_loopw [4, 6, 7, 8, 9, 10, 11, 14] (fun v _ _ _ _ _ _ i wr => Hid (Ext w wr) ∧ ((i = .int .i64 0 ∧ v = .slice none 0 0) ∨ (∃ A n c hs, i = .int .i64 1 ∧ v = .slice A n c ∧ Hid (hs1X f = .ok hs) ∧ Hid (HsRd wr (.slice A n c) hs)))) (fun _ _ _ _ _ _ _ i _ => 1 - (intOf i).toNat)
  case atStart => exact ⟨Lib.hid (Below.refl _ _), .inl ⟨rfl, rfl⟩⟩
  case round =>
  obtain ⟨E, ⟨rfl, rfl⟩ | ⟨A, n, c, hs, rfl, rfl, HS, HR⟩⟩ := hrel
  case inr =>
    go_wp2_with fail
    go_ret2
    exact ⟨E.out, .inr ⟨hs, A, n, c, HS.out, rfl, HR.out⟩⟩
  case inl =>
  have u0 := CU.out wr E.out
  go_wp2_with fail
  clear u0
  refine (HO.out wr E.out).mono ?_
  rintro e w2 ⟨b2, h⟩
  have X2 := Lib.hid (E.out.tr b2)
  clear b2
  rcases h with ⟨z, A, n, c, k, hE, hk, rfl⟩ | ⟨z, ks, A, n, c, hE, rfl, hr⟩
  · have HE := Lib.hid (hs1_err hE)
    have HK := Lib.hid hk
    have hkb : (k != 0) = true := by simpa using hk
    clear hE hk
    go_wp2_with fail
    go_ret2
    exact ⟨X2.out, .inl ⟨k, HE.out, HK.out, rfl⟩⟩
  have HE := Lib.hid hE
  clear hE hr
  by_cases hz : 16 < z
  case pos =>
    have HQ := Lib.hid (hs1_big HE.out hz)
    go_wp2_with fail
    go_ret2
    exact ⟨X2.out, .inl ⟨3, HQ.out, by decide, rfl⟩⟩
  have HQ := Lib.hid (hs1_ok HE.out hz)
  have hz' : z ≤ 16 := by omega
  clear hz
  go_wp2_with fail
  refine (bsf0_any z _ w2).mono ?_
  rintro e w3 ⟨rfl, b3⟩
  have X3 := Lib.hid (X2.out.tr b3)
  clear b3
  go_wp2_with fail
  refine (HD.out w3 X3.out).mono ?_
  rintro e w4 ⟨A4, n4, c4, rfl, hn4, o4, b4⟩
  have X4 := Lib.hid (X3.out.tr b4)
  have R4 := Lib.hid o4.rd
  obtain ⟨w5, hw5⟩ : ∃ w5, w4.alloc (.cells #[.int .i64 z, .slice A4 n4 c4] 72) = w5 := ⟨_, rfl⟩
  have x5 : Ext w4 w5 := by rw [← hw5]; exact (Below.refl _ _).alloc (Nat.le_refl _) _
  have K5 := Lib.hid (show RdK w5 2 (.slice (some ⟨w4.heap.size, 0, none⟩) 1 1) (hsCells ((z, sha f), .slice A4 n4 c4)) by rw [← hw5]; exact RdK.lit w4 2 #[.int .i64 z, .slice A4 n4 c4] 72 1 rfl (by unfold maxLen; omega))
  have X5 := Lib.hid (X4.out.tr x5)
  have R5 := Lib.hid (R4.out.ext x5)
  clear b4 o4 x5 hn4
  go_wp2_with fail
  clear hw5
  refine (ins0_any (p := ((z, sha f), .slice A4 n4 c4)) w5 K5.out rfl).mono ?_
  rintro e w6 ⟨A6, n6, c6, rfl, hn6, o6, b6⟩
  have X6 := Lib.hid (X5.out.tr b6)
  have H6 := Lib.hid (hsRd_of (ps := [((z, sha f), .slice A4 n4 c4)]) o6.rd fun u hu => by rw [List.mem_singleton.1 hu]; exact R5.out.ext b6)
  clear b6 o6 hn6
  go_wp2_with fail
  go_roundw
  case rel => exact ⟨X6, .inr ⟨A6, n6, c6, _, rfl, rfl, HQ, H6⟩⟩
  case measure => simp [intOf]
end Go.Proofs.YthbpdhanljpigaaGreatDoor
