/- Arguments by value: api.TerminalCert. -/
import Derived.Test.YtkjplpmogfmhkaaGreatDoorPkp
import Derived.Test.YtkjplpmogfmhkaaGreatDoorPkj
import Derived.Deep.Fields
namespace Go.Proofs.YtkjplpmogfmhkaaGreatDoor
open Go.Joins Go.ChangeShapes Go.WideShapes Go.ChangeAt Go.RowKit Go.Deep
set_option linter.unusedVariables false
set_option maxRecDepth 100000

theorem tc_mk (s0 s1 : ByteArray) (z2 z3 z4 z5 z6 z7 z8 : Int) : (Value.agg #[.string s0, .string s1, .int .i64 z2, .int .i64 z3, .int .i64 z4, .int .i64 z5, .int .i64 z6, .int .i64 z7, .int .i64 z8]) = tcV ⟨s0.data.toList, s1.data.toList, z2, z3, z4, z5, z6, z7, z8⟩ := rfl
section
variable {H : Type} {enc : TypeId × Value → H} {W : World} {base : Nat} {v : Value} {d : DataW H} {p : List MemPlace}
theorem open_tc (hv : Value.okWide Tryz.prog W .any base 35 v) (h : DataW.Trod enc Tryz.prog W 0 (fun _ => true) true 35 v d p) :
    ∃ c : TC, v = tcV c := by
  have hC : Tryz.prog.cellsOf 35 = 9 := by kernel_rfl
  have c1 : Tryz.prog.cellsOf 9 = 1 := by kernel_rfl
  have c2 : Tryz.prog.cellsOf 3 = 1 := by kernel_rfl
  have c3 : Tryz.prog.cellsOf 33 = 2 := by kernel_rfl
  obtain ⟨cs, rfl, hsz⟩ := okWide_struct Tryz.underlying35 hv
  rw [hC] at hsz
  obtain ⟨fuel, hf⟩ := h
  obtain ⟨xs, n, _, _, _, hlen, hg⟩ := DataW.trod_struct Tryz.underlying35 hf
  obtain ⟨l⟩ := cs
  match l, hsz, xs, hlen with
  | [v0, v1, v2, v3, v4, v5, v6, v7, v8], _, [y0, y1, y2, y3, y4, y5, y6, y7], _ =>
    have g0 : DataW.trod enc Tryz.prog W 0 (fun _ => true) true n 9 (([v0, v1, v2, v3, v4, v5, v6, v7, v8].drop 0).take (Tryz.prog.cellsOf 9)) = some y0 := hg 0 _ rfl
    have g1 : DataW.trod enc Tryz.prog W 0 (fun _ => true) true n 9 (([v0, v1, v2, v3, v4, v5, v6, v7, v8].drop 1).take (Tryz.prog.cellsOf 9)) = some y1 := hg 1 _ rfl
    have g2 : DataW.trod enc Tryz.prog W 0 (fun _ => true) true n 3 (([v0, v1, v2, v3, v4, v5, v6, v7, v8].drop 2).take (Tryz.prog.cellsOf 3)) = some y2 := hg 2 _ rfl
    have g3 : DataW.trod enc Tryz.prog W 0 (fun _ => true) true n 3 (([v0, v1, v2, v3, v4, v5, v6, v7, v8].drop 3).take (Tryz.prog.cellsOf 3)) = some y3 := hg 3 _ rfl
    have g4 : DataW.trod enc Tryz.prog W 0 (fun _ => true) true n 3 (([v0, v1, v2, v3, v4, v5, v6, v7, v8].drop 4).take (Tryz.prog.cellsOf 3)) = some y4 := hg 4 _ rfl
    have g5 : DataW.trod enc Tryz.prog W 0 (fun _ => true) true n 3 (([v0, v1, v2, v3, v4, v5, v6, v7, v8].drop 5).take (Tryz.prog.cellsOf 3)) = some y5 := hg 5 _ rfl
    have g6 : DataW.trod enc Tryz.prog W 0 (fun _ => true) true n 3 (([v0, v1, v2, v3, v4, v5, v6, v7, v8].drop 6).take (Tryz.prog.cellsOf 3)) = some y6 := hg 6 _ rfl
    have g7 : DataW.trod enc Tryz.prog W 0 (fun _ => true) true n 33 (([v0, v1, v2, v3, v4, v5, v6, v7, v8].drop 7).take (Tryz.prog.cellsOf 33)) = some y7 := hg 7 _ rfl
    rw [c1] at g0 g1
    rw [c2] at g2 g3 g4 g5 g6
    rw [c3] at g7
    simp only [List.drop_succ_cons, List.drop_zero, List.take_succ_cons, List.take_zero] at g0 g1 g2 g3 g4 g5 g6 g7
    obtain ⟨z0, e0, _, _⟩ := DataW.trod_string Tryz.underlying9 g0
    obtain ⟨z1, e1, _, _⟩ := DataW.trod_string Tryz.underlying9 g1
    obtain ⟨z2, e2, _, _⟩ := DataW.trod_int Tryz.underlying3 g2
    obtain ⟨z3, e3, _, _⟩ := DataW.trod_int Tryz.underlying3 g3
    obtain ⟨z4, e4, _, _⟩ := DataW.trod_int Tryz.underlying3 g4
    obtain ⟨z5, e5, _, _⟩ := DataW.trod_int Tryz.underlying3 g5
    obtain ⟨z6, e6, _, _⟩ := DataW.trod_int Tryz.underlying3 g6
    obtain ⟨ys, m, _, _, _, hlen2, hg2⟩ := DataW.trod_struct Tryz.underlying33 g7
    match ys, hlen2 with
    | [u0, u1], _ =>
    have g8 : DataW.trod enc Tryz.prog W 0 (fun _ => true) true m 3 (([v7, v8].drop 0).take (Tryz.prog.cellsOf 3)) = some u0 := hg2 0 _ rfl
    have g9 : DataW.trod enc Tryz.prog W 0 (fun _ => true) true m 3 (([v7, v8].drop 1).take (Tryz.prog.cellsOf 3)) = some u1 := hg2 1 _ rfl
    rw [c2] at g8 g9
    simp only [List.drop_succ_cons, List.drop_zero, List.take_succ_cons, List.take_zero] at g8 g9
    obtain ⟨z7, e7, _, _⟩ := DataW.trod_int Tryz.underlying3 g8
    obtain ⟨z8, e8, _, _⟩ := DataW.trod_int Tryz.underlying3 g9
    injection e0 with e0
    injection e1 with e1
    injection e2 with e2
    injection e3 with e3
    injection e4 with e4
    injection e5 with e5
    injection e6 with e6
    injection e7 with e7
    injection e8 with e8
    subst e0 e1 e2 e3 e4 e5 e6 e7 e8
    exact ⟨_, tc_mk _ _ _ _ _ _ _ _ _⟩
end
end Go.Proofs.YtkjplpmogfmhkaaGreatDoor
