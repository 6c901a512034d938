/- Layer 9: what a signature is good for; signatures in memory. -/
import Derived.Test.YtkjplpmogfmhkaaGreatDoorSv
import Derived.Test.YtkjplpmogfmhkaaGreatDoorGa
import Derived.Test.YtkjplpmogfmhkaaGreatDoorEv
namespace Go.Proofs.YtkjplpmogfmhkaaGreatDoor
open Go.RowKit
set_option linter.unusedVariables false
set_option maxRecDepth 100000

/-- A signature is right under the public key of its secret. -/
theorem sig_verifies {k : Int} (h0 : 1 ≤ k) (h1 : k < 1073741789) (l : List UInt8) : verB (pw 4 k) l (sigE k l) (sigS k l) = true := by
  obtain ⟨e0, e1⟩ := sigE_bd k l
  obtain ⟨s0, s1⟩ := sigS_bd k l
  obtain ⟨n0, n1⟩ := sigN_bd k l
  rw [verB_eq (pub_elem h0 h1) (inB_yes e0 e1) (inB_yes s0 s1)]
  have key : pw 4 (sigS k l) * pw (pw 4 k) (1073741789 - sigE k l) % 2147483579 = pw 4 (sigN k l) := by
    have hs : sigS k l = (sigN k l + sigE k l * k) % 1073741789 := rfl
    generalize sigE k l = e at *
    generalize sigN k l = n at *
    rw [hs]
    obtain ⟨k', rfl⟩ := Int.eq_ofNat_of_zero_le (show 0 ≤ k by omega)
    obtain ⟨e', rfl⟩ := Int.eq_ofNat_of_zero_le e0
    obtain ⟨n', rfl⟩ := Int.eq_ofNat_of_zero_le (show 0 ≤ n by omega)
    have h := sig_back (k := k') (n := n') (e := e') (by omega) (by omega) (by omega)
    have c1 : ((n' : Int) + (e' : Int) * (k' : Int)) % 1073741789 = (((n' + e' * k') % 1073741789 : Nat) : Int) := by simp
    have c2 : (1073741789 : Int) - (e' : Int) = ((1073741789 - e' : Nat) : Int) := by omega
    rw [c1, c2, show (4 : Int) = ((4 : Nat) : Int) from rfl, pw_nat, pw_nat, pw_nat, pw_nat, ← h]
    simp
  rw [key]
  simp only [sigE, beq_self_eq_true]
def sE (k : Int) (l : List UInt8) : Int := if inB 1 1073741789 k = true then sigE k l else 0
def sS (k : Int) (l : List UInt8) : Int := if inB 1 1073741789 k = true then sigS k l else 0
def sK (k : Int) : Int := if inB 1 1073741789 k = true then 0 else 3
theorem sign_any {a : Value} {l : List UInt8} (k : Int) (w : World) (ha : Rd w a (bvs l)) (hl : l.length ≤ 140737488352000) (E : KTab w 1) :
    Calls Tryz.prog 156 #[.int .i64 k, a] w (RetQ w (sgV (sE k l) (sS k l) (sK k))) := by
  unfold sE sS sK
  by_cases h : inB 1 1073741789 k = true
  · rw [if_pos h, if_pos h, if_pos h]; exact sign_yes k w h ha hl E
  · rw [if_neg h, if_neg h, if_neg h]; exact sign_no k w (not_true h) ha
theorem refsign_any {a : Value} {l : List UInt8} (k : Int) (w : World) (ha : Rd w a (bvs l)) (hl : l.length ≤ 140737488352000) (E : KTab w 0) :
    Calls Tryz.prog 157 #[.int .i64 k, a] w (RetQ w (sgV (sE k l) (sS k l) (sK k))) := by
  unfold sE sS sK
  by_cases h : inB 1 1073741789 k = true
  · rw [if_pos h, if_pos h, if_pos h]; exact refsign_yes k w h ha hl E
  · rw [if_neg h, if_neg h, if_neg h]; exact refsign_no k w (not_true h) ha
theorem sK_near (x : Int) : sK (nearI x) = 0 := if_pos (near_in x)
/-- A new signature's block. -/
structure SgAt (w wa : World) (g : Nat) (e s : Int) : Prop where
  ext : Ext w wa
  lt : g < wa.heap.size
  c0 : wa.cell? ⟨g, 0, none⟩ = some (.int .i64 e)
  c1 : wa.cell? ⟨g, 1, none⟩ = some (.int .i64 s)
theorem sg_alloc (w : World) (e s : Int) : ∃ wa, wa = w.alloc (.cells #[.int .i64 e, .int .i64 s] 33) ∧ SgAt w wa w.heap.size e s :=
  ⟨_, rfl, (Below.refl _ _).alloc (Nat.le_refl _) _, by simp, by go_simp, by go_simp⟩
theorem SgAt.keep {w wa wb : World} {g : Nat} {e s : Int} (h : SgAt w wa g e s) (b : Ext wa wb) : SgAt w wb g e s :=
  ⟨h.ext.tr b, Nat.lt_of_lt_of_le h.lt b.size, (b.cell (p := ⟨g, 0, none⟩) h.lt).trans h.c0, (b.cell (p := ⟨g, 1, none⟩) h.lt).trans h.c1⟩
end Go.Proofs.YtkjplpmogfmhkaaGreatDoor
