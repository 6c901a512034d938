/- Layer 25: the reference's Learn. -/
import Derived.Test.YtkjplpmogfmhkaaDoorPkw
namespace Go.Proofs.YtkjplpmogfmhkaaDoor
open Go.RowKit
set_option linter.unusedVariables false
set_option maxRecDepth 100000

theorem rowOf_none0 (A : Option Addr) : rowOf (.slice A 0 0) = none := by cases A <;> rfl
theorem grown_none {w w' : World} (h : w.grownBy w' none) : Ext w w' := ⟨h.os, h.tape, h.output, h.size, fun k hk => h.block k hk (by simp)⟩
theorem run_buildT0 (W : World) : (Instr.buildSlice 22 0 ([] : List (Nat × Value)).toArray).run Tryd.prog W = .ok (.slice (some ⟨W.heap.size, 0, none⟩) 0 0) (W.alloc (.cells #[] 43)) := by go_simp
theorem run_appT0 {W : World} {ty : TypeId} {v src : Value} {l : List TP} {B : Nat} (hB : B ≤ W.heap.size) (hv : ∃ A, v = .slice A 0 0) (hs : RdT W src l) (hl : l.length ≤ 2000000000000) :
    ∃ v' w'', (Builtin.append_ #[22, 22] ty #[v, src]).run Tryd.prog W = .ok v' w'' ∧ Ext W w'' ∧ GT B l v' w'' := by
  obtain ⟨A, rfl⟩ := hv
  obtain ⟨A2, c2, w2, h1, h2, h3, h4⟩ := run_appKR (ty := ty) (k := 5) (by decide) elemTp (n := 0) (m := l.length) (OwnK.empty W B 43 5 A) rfl hs (by rw [tpsCells_len]) (tpsCells_one l) (by omega) (by unfold maxLen; omega) hB
  rw [rowOf_none0] at h3
  exact ⟨_, w2, h1, grown_none h3, A2, _, c2, rfl, (show _ = _ by rw [Nat.zero_add]), by simpa using h2⟩
/-- The end of the reference's Learn, where the first point is dropped. -/
theorem row_drop {w : World} {bb n1 c1 q B : Nat} {xs : List Value} (h : RdK w 5 (.slice (some ⟨bb, 0, none⟩) n1 c1) xs) (h1 : 1 ≤ n1) (hge : ∀ r, rowOf (.slice (some ⟨bb, 0, none⟩) n1 c1) = some r → B ≤ r) (hq : rowOf (.slice (some ⟨bb, 5, none⟩) (n1 - 1) (c1 - 1)) = some q) : B ≤ q := by
  obtain ⟨A9, n9, c9, e9, h9, h8, h7, h6⟩ := h
  injection e9 with e1 e2 e3
  obtain ⟨cc, rfl⟩ : ∃ cc, c1 = cc + 1 := ⟨c1 - 1, by omega⟩
  have h5 := hge bb (by simp [rowOf])
  have h6 : bb = q := by
    cases cc with
    | zero => simp [rowOf] at hq
    | succ cc => simpa [rowOf] using hq
  omega
theorem LnS.finDrop {w wr : World} {A : Option Addr} {n c : Nat} {d : Int} {b : CH} {x : TC} {cb : Nat} {bb n1 c1 : Nat} {d1 : Int} {l1 : List TP} {A0 : Option Addr} {n0 c0 : Nat} {l0 : List TP} (h : LnS w wr A n c d b x cb A0 n0 c0 d1 l0)
    (hw : OwnK wr (w.heap.size + 4) 43 5 (.slice (some ⟨bb, 0, none⟩) n1 c1) (tpsCells l1)) (h1 : 1 ≤ n1) {t : TR} (ht : t = ⟨l1.drop 1, d1⟩) :
    LearnR w t (.returned (.agg #[.slice (some ⟨bb, 5, none⟩) (n1 - 1) (c1 - 1), .int .i64 d1])) (((wr.setCell ⟨cb, 0, none⟩ (.slice (some ⟨bb, 5, none⟩) (n1 - 1) (c1 - 1))).setCell ⟨w.heap.size + 3, 0, none⟩ (.slice (some ⟨bb, 5, none⟩) (n1 - 1) (c1 - 1))).setCell ⟨w.heap.size + 3, 1, none⟩ (.int .i64 d1)) := by
  subst ht
  have hcb := h.cb
  have o1 := hw.poke h.o tp_ne_tr 0 (.slice (some ⟨bb, 5, none⟩) (n1 - 1) (c1 - 1))
  have z1 := h.z.gb (Gb.set cb 0 wr (.slice (some ⟨bb, 5, none⟩) (n1 - 1) (c1 - 1))) hcb
  have T2 := z1.r.setPs (A' := some ⟨bb, 5, none⟩) (n' := n1 - 1) (c' := c1 - 1)
  have o2 := (o1.poke z1.r tp_ne_tr 0 _).poke T2 tp_ne_tr 1 (.int .i64 d1)
  have r := RdT.drop1 o2.rd h1
  rw [Nat.zero_add] at r
  refine ⟨ext_set (ext_set z1.ext (by omega)) (by omega), _, _, _, rfl, r, fun A' n' c' hv hn => ?_⟩
  injection hv with e1 e2 e3
  obtain ⟨b', o', q1, q2⟩ := (o2.safe 0).2 _ _ _ rfl (by omega)
  injection q1 with q1
  injection q1 with q1 _
  subst q1
  exact ⟨_, _, e1.symm, q2⟩
theorem LnS.finDropCells {w wr : World} {A : Option Addr} {n c : Nat} {d : Int} {b : CH} {x : TC} {cb : Nat} {d1 : Int} {A0 : Option Addr} {n0 c0 : Nat} {l0 : List TP} (h : LnS w wr A n c d b x cb A0 n0 c0 d1 l0) (A1 : Option Addr) (n1 c1 : Nat) :
    (((wr.setCell ⟨cb, 0, none⟩ (.slice A1 n1 c1)).setCell ⟨w.heap.size + 3, 0, none⟩ (.slice A1 n1 c1)).setCell ⟨w.heap.size + 3, 1, none⟩ (.int .i64 d1)).cell? ⟨w.heap.size + 3, 0, none⟩ = some (.slice A1 n1 c1) ∧ (((wr.setCell ⟨cb, 0, none⟩ (.slice A1 n1 c1)).setCell ⟨w.heap.size + 3, 0, none⟩ (.slice A1 n1 c1)).setCell ⟨w.heap.size + 3, 1, none⟩ (.int .i64 d1)).cell? ⟨w.heap.size + 3, 1, none⟩ = some (.int .i64 d1) := by
  have z1 := h.z.gb (Gb.set cb 0 wr (.slice A1 n1 c1)) h.cb
  have T2 := z1.r.setPs (A' := A1) (n' := n1) (c' := c1)
  exact (T2.setDt d1).cells
end Go.Proofs.YtkjplpmogfmhkaaDoor
