/- Words, rotations, first states: what each function returns. -/
import Derived.Test.YtkjplpmogfmhkaaGreatDoorWd1
import Derived.Test.YtkjplpmogfmhkaaGreatDoorSha
import Derived.Test.YtkjplpmogfmhkaaGreatDoorQt
namespace Go.Proofs.YtkjplpmogfmhkaaGreatDoor
open Go.RowKit
set_option linter.unusedVariables false

theorem rotr_any (x n : Int) (h0 : 0 ≤ n) (h1 : n ≤ 32) (w : World) :
    Calls Tryz.prog 283 #[.int .u32 x, .int .u64 n] w fun e w' => e = .returned (.int .u32 (rotr x n)) ∧ w' = w := by
  go_enter Tryz.func283, Tryz.ntmps283
  go_wp2
  go_ret
  exact ⟨rfl, rfl⟩

theorem elemW : Elem Tryz.prog 261 265 4 := by
  have h : (Tryz.prog.info? 265).map (fun i => (i.zero, i.size, i.bytes)) = some (some (.int .u32 0), 1, 4) := by kernel_rfl
  obtain ⟨i, h1, h2, h3, h4⟩ := info_parts h
  exact ⟨i, _, Tryz.underlying261, h1, h2, h3, h4, rfl⟩

/-- A call that returns new words. -/
def RetW (w : World) (l : List Int) (e : Ending) (w' : World) : Prop :=
  ∃ A n c, e = .returned (.slice A n c) ∧ n = l.length ∧ RdI w' .u32 (.slice A n c) l ∧ Ext w w'

theorem refstart_any (w : World) : Calls Tryz.prog 268 #[] w (RetW w start8) := by
  go_enter Tryz.func268, Tryz.ntmps268
  go_wp2
  go_ret
  exact ⟨_, _, _, rfl, rfl, Rd.lit _ _ _ 8 rfl (by unfold maxLen; omega), (Below.refl _ _).alloc (Nat.le_refl _) _⟩
theorem digstart_any (w : World) : Calls Tryz.prog 277 #[] w (RetW w start8) := by
  go_enter Tryz.func277, Tryz.ntmps277
  go_wp2
  go_ret
  exact ⟨_, _, _, rfl, rfl, Rd.lit _ _ _ 8 rfl (by unfold maxLen; omega), (Below.refl _ _).alloc (Nat.le_refl _) _⟩

theorem word_any {b : Value} {l : List UInt8} (w : World) (hb : Rd w b (bvs l)) (h4 : 4 ≤ l.length) :
    Calls Tryz.prog 291 #[b] w fun e w' => e = .returned (.int .u32 (wordAt l 0)) ∧ ∃ n, w' = w.drewN n := by
  obtain ⟨A, n, c, rfl, hn, hnc, hcm, hA⟩ := hb.bytes
  obtain ⟨b, o, rfl, _, hc⟩ := hA (by omega)
  have c0 := hc 0 (by omega)
  have c1 := hc 1 (by omega)
  have c2 := hc 2 (by omega)
  have c3 := hc 3 (by omega)
  have b0 := byteI_lo l 0
  have b1 := byteI_lo l 1
  have b2 := byteI_lo l 2
  have b3 := byteI_lo l 3
  have d0 := byteI_hi l 0
  have d1 := byteI_hi l 1
  have d2 := byteI_hi l 2
  have d3 := byteI_hi l 3
  have k0 : 0 < n := by omega
  rw [Nat.add_zero] at c0
  have k1 : (1 : Int) < n := by omega
  have k2 : (2 : Int) < n := by omega
  have k3 : (3 : Int) < n := by omega
  clear hc hA hn hb
  go_enter Tryz.func291, Tryz.ntmps291
  go_wp2
  go_quiet (fail)
  go_wp2
  go_ret
  exact ⟨rfl, nq, rfl⟩

/-- The table of the constants, in block g. -/
def KTab (w : World) (g : Nat) : Prop := ∀ t, t < 64 → w.cell? ⟨g, t, none⟩ = some (.int .u32 (kAt t))
theorem KTab.lt {w : World} {g : Nat} (h : KTab w g) : g < w.heap.size := World.block_lt_of_cell? w _ (h 0 (by omega))
theorem KTab.below {w w' : World} {g : Nat} (h : KTab w g) (hb : Below w.heap.size w w') : KTab w' g := fun t ht => (hb.cell (p := ⟨g, t, none⟩) h.lt).trans (h t ht)
/-- What Compress returns for a state and a block. -/
def RetC (w : World) (l : List Int) (e : Ending) (w' : World) : Prop :=
  ∃ A c, e = .returned (.tuple #[.slice A 8 c, .int .i64 0]) ∧ RdI w' .u32 (.slice A 8 c) l ∧ Ext w w'

end Go.Proofs.YtkjplpmogfmhkaaGreatDoor
