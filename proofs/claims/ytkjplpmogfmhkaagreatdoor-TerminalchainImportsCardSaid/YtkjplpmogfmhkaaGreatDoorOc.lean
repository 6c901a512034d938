/- Arguments by value: api.Chain, as CH. -/
import Derived.Test.YtkjplpmogfmhkaaGreatDoorPkp
import Derived.Test.YtkjplpmogfmhkaaGreatDoorP24
import Derived.Test.YtkjplpmogfmhkaaGreatDoorPkv
import Derived.Deep.Fields
namespace Go.Proofs.YtkjplpmogfmhkaaGreatDoor
open Go.Joins Go.ChangeShapes Go.WideShapes Go.ChangeAt Go.RowKit Go.Deep
set_option linter.unusedVariables false
set_option maxRecDepth 100000

section
variable {H : Type} {enc : TypeId × Value → H} {P : Program} {W : World} {base b0 : Nat} {spare : Nat → Bool} {held : Bool} {v : Value} {d : DataW H} {p : List MemPlace}
/-- A struct of one-cell fields: its cells, each read by itself. -/
theorem open_cells {r : Reach} {t : TypeId} {fs : Array Field} (hs : P.underlying t = some (.struct fs)) (hone : oneCellFields P fs = true) (hC : P.cellsOf t = fs.size) (hv : Value.okWide P W r b0 t v) (h : DataW.Trod enc P W base spare held t v d p) :
    ∃ (cs : Array Value) (n : Nat), v = .agg cs ∧ cs.size = fs.size ∧ ∀ (i : Nat) (f : Field), fs[i]? = some f → ∃ y, DataW.trod enc P W base spare held n f.type [cs.getD i undef] = some y := by
  obtain ⟨cs, rfl, hsz⟩ := okWide_struct hs hv
  rw [hC] at hsz
  obtain ⟨fuel, hf⟩ := h
  obtain ⟨xs, n, _, _, _, hlen, hg⟩ := DataW.trod_struct hs hf
  refine ⟨cs, n, rfl, hsz, fun i f hi => ?_⟩
  obtain ⟨ho, hk⟩ := hone_of hone i f hi
  have hlt : i < fs.size := (Array.getElem?_eq_some_iff.1 hi).1
  have g := hg i f hi
  rw [ho, hk, show (Value.agg cs).cells = cs from rfl, take1_drop cs.toList i undef (by simpa using (by omega : i < cs.size)), List.getElem?_eq_getElem (by omega)] at g
  exact ⟨_, by simpa [List.getD_eq_getElem?_getD, Array.getD_eq_getD_getElem?] using g⟩
end
section
variable {H : Type} {enc : TypeId × Value → H} {W : World} {base : Nat} {v : Value} {d : DataW H} {p : List MemPlace}
theorem open_ch (hv : Value.okWide Tryz.prog W .any base 28 v) (h : DataW.Trod enc Tryz.prog W 0 (fun _ => true) true 28 v d p) :
    ∃ c : CH, v = chV c := by
  obtain ⟨cs, n, rfl, hsz, hg⟩ := open_cells Tryz.underlying28 (by kernel_rfl) (by kernel_rfl) hv h
  obtain ⟨l⟩ := cs
  match l, hsz with
  | [c0, c1, c2, c3, c4, c5], _ =>
    obtain ⟨y0, g0⟩ := hg 0 _ rfl
    obtain ⟨y1, g1⟩ := hg 1 _ rfl
    obtain ⟨y2, g2⟩ := hg 2 _ rfl
    obtain ⟨y3, g3⟩ := hg 3 _ rfl
    obtain ⟨y4, g4⟩ := hg 4 _ rfl
    obtain ⟨y5, g5⟩ := hg 5 _ rfl
    obtain ⟨z0, e0, _, _⟩ := DataW.trod_string Tryz.underlying9 g0
    obtain ⟨z1, e1, _, _⟩ := DataW.trod_int Tryz.underlying3 g1
    obtain ⟨z2, e2, _, _⟩ := DataW.trod_int Tryz.underlying3 g2
    obtain ⟨z3, e3, _, _⟩ := DataW.trod_int Tryz.underlying3 g3
    obtain ⟨z4, e4, _, _⟩ := DataW.trod_int Tryz.underlying3 g4
    obtain ⟨z5, e5, _, _⟩ := DataW.trod_int Tryz.underlying3 g5
    injection e0 with e0
    injection e1 with e1
    injection e2 with e2
    injection e3 with e3
    injection e4 with e4
    injection e5 with e5
    refine ⟨⟨z0.data.toList, z1, z2, z3, z4, z5⟩, ?_⟩
    show _ = Value.agg #[.string z0, .int .i64 z1, .int .i64 z2, .int .i64 z3, .int .i64 z4, .int .i64 z5]
    rw [← e0, ← e1, ← e2, ← e3, ← e4, ← e5]
    rfl
end
end Go.Proofs.YtkjplpmogfmhkaaGreatDoor
