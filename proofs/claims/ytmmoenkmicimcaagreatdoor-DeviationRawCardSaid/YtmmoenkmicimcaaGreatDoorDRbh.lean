/- Parts Os Ot Ou of the proof. -/
import Derived.Test.YtmmoenkmicimcaaGreatDoorDRbg
import Derived.Test.YtmmoenkmicimcaaGreatDoorDRax
import Derived.SizedLaws
namespace Go.Proofs.YtmmoenkmicimcaaGreatDoor
open Go.Joins Go.ChangeShapes Go.WideShapes Go.ChangeAt Go.RowKit Go.Deep
set_option linter.unusedVariables false
set_option maxRecDepth 100000
section
variable {H : Type} {enc : TypeId × Value → H} {W : World}
theorem trod_i1 {fuel : Nat} {cs : List Value} {x : DataW H × List MemPlace} (h : DataW.trod enc Tryz.prog W 0 (fun _ => true) true fuel 3 cs = some x) : ∃ a : Int, cs = [.int .i64 a] ∧ True := by
  obtain ⟨z, e, _, _⟩ := DataW.trod_int Tryz.underlying3 h
  exact ⟨z, e, trivial⟩
theorem flat_ints (l : List Int) : (l.flatMap fun a : Int => [Value.int .i64 a]) = intsV l := by
  unfold intsV
  induction l with
  | nil => rfl
  | cons a l ih => rw [List.flatMap_cons, ih]; rfl
theorem trod_nc {fuel : Nat} {cs : List Value} {x : DataW H × List MemPlace} (hl : cs.length = 11) (h : DataW.trod enc Tryz.prog W 0 (fun _ => true) true fuel 39 cs = some x) : ∃ c : NC, cs = ncCells c ∧ c.st.length ≤ maxLen := by
  have c_S : Tryz.prog.cellsOf 37 = 2 := by kernel_rfl
  have c_i : Tryz.prog.cellsOf 3 = 1 := by kernel_rfl
  have c_s : Tryz.prog.cellsOf 9 = 1 := by kernel_rfl
  obtain ⟨xs, n, _, _, _, hlen, hg⟩ := DataW.trod_struct Tryz.underlying39 h
  match cs, hl, xs, hlen with
  | [v0, v1, v2, v3, v4, v5, v6, v7, v8, v9, v10], _, [y0, y1, y2, y3, y4, y5, y6, y7, y8, y9], _ =>
    have g0 : DataW.trod enc Tryz.prog W 0 (fun _ => true) true n 9 (([v0, v1, v2, v3, v4, v5, v6, v7, v8, v9, v10].drop 0).take (Tryz.prog.cellsOf 9)) = some y0 := hg 0 _ rfl
    rw [c_s] at g0
    have g1 : DataW.trod enc Tryz.prog W 0 (fun _ => true) true n 3 (([v0, v1, v2, v3, v4, v5, v6, v7, v8, v9, v10].drop 1).take (Tryz.prog.cellsOf 3)) = some y1 := hg 1 _ rfl
    rw [c_i] at g1
    have g2 : DataW.trod enc Tryz.prog W 0 (fun _ => true) true n 3 (([v0, v1, v2, v3, v4, v5, v6, v7, v8, v9, v10].drop 2).take (Tryz.prog.cellsOf 3)) = some y2 := hg 2 _ rfl
    rw [c_i] at g2
    have g3 : DataW.trod enc Tryz.prog W 0 (fun _ => true) true n 3 (([v0, v1, v2, v3, v4, v5, v6, v7, v8, v9, v10].drop 3).take (Tryz.prog.cellsOf 3)) = some y3 := hg 3 _ rfl
    rw [c_i] at g3
    have g4 : DataW.trod enc Tryz.prog W 0 (fun _ => true) true n 3 (([v0, v1, v2, v3, v4, v5, v6, v7, v8, v9, v10].drop 4).take (Tryz.prog.cellsOf 3)) = some y4 := hg 4 _ rfl
    rw [c_i] at g4
    have g5 : DataW.trod enc Tryz.prog W 0 (fun _ => true) true n 3 (([v0, v1, v2, v3, v4, v5, v6, v7, v8, v9, v10].drop 5).take (Tryz.prog.cellsOf 3)) = some y5 := hg 5 _ rfl
    rw [c_i] at g5
    have g6 : DataW.trod enc Tryz.prog W 0 (fun _ => true) true n 3 (([v0, v1, v2, v3, v4, v5, v6, v7, v8, v9, v10].drop 6).take (Tryz.prog.cellsOf 3)) = some y6 := hg 6 _ rfl
    rw [c_i] at g6
    have g7 : DataW.trod enc Tryz.prog W 0 (fun _ => true) true n 3 (([v0, v1, v2, v3, v4, v5, v6, v7, v8, v9, v10].drop 7).take (Tryz.prog.cellsOf 3)) = some y7 := hg 7 _ rfl
    rw [c_i] at g7
    have g8 : DataW.trod enc Tryz.prog W 0 (fun _ => true) true n 3 (([v0, v1, v2, v3, v4, v5, v6, v7, v8, v9, v10].drop 8).take (Tryz.prog.cellsOf 3)) = some y8 := hg 8 _ rfl
    rw [c_i] at g8
    have g9 : DataW.trod enc Tryz.prog W 0 (fun _ => true) true n 37 (([v0, v1, v2, v3, v4, v5, v6, v7, v8, v9, v10].drop 9).take (Tryz.prog.cellsOf 37)) = some y9 := hg 9 _ rfl
    rw [c_S] at g9
    simp only [List.drop_succ_cons, List.drop_zero, List.take_succ_cons, List.take_zero] at g0 g1 g2 g3 g4 g5 g6 g7 g8 g9
    obtain ⟨z0, e0, _, b0⟩ := DataW.trod_string Tryz.underlying9 g0
    injection e0 with e0
    subst e0
    obtain ⟨z1, e1, _, _⟩ := DataW.trod_int Tryz.underlying3 g1
    injection e1 with e1
    subst e1
    obtain ⟨z2, e2, _, _⟩ := DataW.trod_int Tryz.underlying3 g2
    injection e2 with e2
    subst e2
    obtain ⟨z3, e3, _, _⟩ := DataW.trod_int Tryz.underlying3 g3
    injection e3 with e3
    subst e3
    obtain ⟨z4, e4, _, _⟩ := DataW.trod_int Tryz.underlying3 g4
    injection e4 with e4
    subst e4
    obtain ⟨z5, e5, _, _⟩ := DataW.trod_int Tryz.underlying3 g5
    injection e5 with e5
    subst e5
    obtain ⟨z6, e6, _, _⟩ := DataW.trod_int Tryz.underlying3 g6
    injection e6 with e6
    subst e6
    obtain ⟨z7, e7, _, _⟩ := DataW.trod_int Tryz.underlying3 g7
    injection e7 with e7
    subst e7
    obtain ⟨z8, e8, _, _⟩ := DataW.trod_int Tryz.underlying3 g8
    injection e8 with e8
    subst e8
    obtain ⟨z9, z10, e9⟩ := trod_sig rfl g9
    injection e9 with e9 e9'
    injection e9' with e10
    subst e9 e10
    exact ⟨⟨z0.data.toList, z1, z2, z3, z4, z5, z6, z7, z8, z9, z10⟩, rfl, (by simpa using b0 : z0.data.toList.length ≤ maxLen)⟩
theorem trod_df {fuel : Nat} {cs : List Value} {x : DataW H × List MemPlace} (hl : cs.length = 5) (h : DataW.trod enc Tryz.prog W 0 (fun _ => true) true fuel 65 cs = some x) : ∃ d : DF, cs = dfCells d ∧ (d.fi.length ≤ maxLen ∧ d.la.length ≤ maxLen) := by
  have c_i : Tryz.prog.cellsOf 3 = 1 := by kernel_rfl
  have c_s : Tryz.prog.cellsOf 9 = 1 := by kernel_rfl
  obtain ⟨xs, n, _, _, _, hlen, hg⟩ := DataW.trod_struct Tryz.underlying65 h
  match cs, hl, xs, hlen with
  | [v0, v1, v2, v3, v4], _, [y0, y1, y2, y3, y4], _ =>
    have g0 : DataW.trod enc Tryz.prog W 0 (fun _ => true) true n 3 (([v0, v1, v2, v3, v4].drop 0).take (Tryz.prog.cellsOf 3)) = some y0 := hg 0 _ rfl
    rw [c_i] at g0
    have g1 : DataW.trod enc Tryz.prog W 0 (fun _ => true) true n 3 (([v0, v1, v2, v3, v4].drop 1).take (Tryz.prog.cellsOf 3)) = some y1 := hg 1 _ rfl
    rw [c_i] at g1
    have g2 : DataW.trod enc Tryz.prog W 0 (fun _ => true) true n 3 (([v0, v1, v2, v3, v4].drop 2).take (Tryz.prog.cellsOf 3)) = some y2 := hg 2 _ rfl
    rw [c_i] at g2
    have g3 : DataW.trod enc Tryz.prog W 0 (fun _ => true) true n 9 (([v0, v1, v2, v3, v4].drop 3).take (Tryz.prog.cellsOf 9)) = some y3 := hg 3 _ rfl
    rw [c_s] at g3
    have g4 : DataW.trod enc Tryz.prog W 0 (fun _ => true) true n 9 (([v0, v1, v2, v3, v4].drop 4).take (Tryz.prog.cellsOf 9)) = some y4 := hg 4 _ rfl
    rw [c_s] at g4
    simp only [List.drop_succ_cons, List.drop_zero, List.take_succ_cons, List.take_zero] at g0 g1 g2 g3 g4
    obtain ⟨z0, e0, _, _⟩ := DataW.trod_int Tryz.underlying3 g0
    injection e0 with e0
    subst e0
    obtain ⟨z1, e1, _, _⟩ := DataW.trod_int Tryz.underlying3 g1
    injection e1 with e1
    subst e1
    obtain ⟨z2, e2, _, _⟩ := DataW.trod_int Tryz.underlying3 g2
    injection e2 with e2
    subst e2
    obtain ⟨z3, e3, _, b3⟩ := DataW.trod_string Tryz.underlying9 g3
    injection e3 with e3
    subst e3
    obtain ⟨z4, e4, _, b4⟩ := DataW.trod_string Tryz.underlying9 g4
    injection e4 with e4
    subst e4
    exact ⟨⟨z0, z1, z2, z3.data.toList, z4.data.toList⟩, rfl, (by simpa using b3 : z3.data.toList.length ≤ maxLen), (by simpa using b4 : z4.data.toList.length ≤ maxLen)⟩
/-- What a list that came in holds: no text is longer than what there can be. -/
def gdR (r : RV) : Prop := r.st.length ≤ maxLen
def gdM (m : MA) : Prop := m.st.length ≤ maxLen ∧ m.sg.st.length ≤ maxLen ∧ ∀ c ∈ m.roots, c.st.length ≤ maxLen
def gdD (d : DV) : Prop := d.st.length ≤ maxLen ∧ d.sg.st.length ≤ maxLen ∧ ∀ x ∈ d.defs, x.fi.length ≤ maxLen ∧ x.la.length ≤ maxLen
theorem trod_rv {fuel : Nat} {cs : List Value} {x : DataW H × List MemPlace} (hl : cs.length = 8) (h : DataW.trod enc Tryz.prog W 0 (fun _ => true) true fuel 88 cs = some x) : ∃ p : RV × Value, cs = rvCells p.1 p.2 ∧ (RdK W 1 p.2 (intsV p.1.ser) ∧ gdR p.1) := by
  have c_I : Tryz.prog.cellsOf 22 = 1 := by kernel_rfl
  have c_S : Tryz.prog.cellsOf 37 = 2 := by kernel_rfl
  have c_i : Tryz.prog.cellsOf 3 = 1 := by kernel_rfl
  have c_s : Tryz.prog.cellsOf 9 = 1 := by kernel_rfl
  obtain ⟨xs, n, _, _, _, hlen, hg⟩ := DataW.trod_struct Tryz.underlying88 h
  match cs, hl, xs, hlen with
  | [v0, v1, v2, v3, v4, v5, v6, v7], _, [y0, y1, y2, y3, y4, y5, y6], _ =>
    have g0 : DataW.trod enc Tryz.prog W 0 (fun _ => true) true n 9 (([v0, v1, v2, v3, v4, v5, v6, v7].drop 0).take (Tryz.prog.cellsOf 9)) = some y0 := hg 0 _ rfl
    rw [c_s] at g0
    have g1 : DataW.trod enc Tryz.prog W 0 (fun _ => true) true n 3 (([v0, v1, v2, v3, v4, v5, v6, v7].drop 1).take (Tryz.prog.cellsOf 3)) = some y1 := hg 1 _ rfl
    rw [c_i] at g1
    have g2 : DataW.trod enc Tryz.prog W 0 (fun _ => true) true n 3 (([v0, v1, v2, v3, v4, v5, v6, v7].drop 2).take (Tryz.prog.cellsOf 3)) = some y2 := hg 2 _ rfl
    rw [c_i] at g2
    have g3 : DataW.trod enc Tryz.prog W 0 (fun _ => true) true n 3 (([v0, v1, v2, v3, v4, v5, v6, v7].drop 3).take (Tryz.prog.cellsOf 3)) = some y3 := hg 3 _ rfl
    rw [c_i] at g3
    have g4 : DataW.trod enc Tryz.prog W 0 (fun _ => true) true n 22 (([v0, v1, v2, v3, v4, v5, v6, v7].drop 4).take (Tryz.prog.cellsOf 22)) = some y4 := hg 4 _ rfl
    rw [c_I] at g4
    have g5 : DataW.trod enc Tryz.prog W 0 (fun _ => true) true n 3 (([v0, v1, v2, v3, v4, v5, v6, v7].drop 5).take (Tryz.prog.cellsOf 3)) = some y5 := hg 5 _ rfl
    rw [c_i] at g5
    have g6 : DataW.trod enc Tryz.prog W 0 (fun _ => true) true n 37 (([v0, v1, v2, v3, v4, v5, v6, v7].drop 6).take (Tryz.prog.cellsOf 37)) = some y6 := hg 6 _ rfl
    rw [c_S] at g6
    simp only [List.drop_succ_cons, List.drop_zero, List.take_succ_cons, List.take_zero] at g0 g1 g2 g3 g4 g5 g6
    obtain ⟨z0, e0, _, b0⟩ := DataW.trod_string Tryz.underlying9 g0
    injection e0 with e0
    subst e0
    obtain ⟨z1, e1, _, _⟩ := DataW.trod_int Tryz.underlying3 g1
    injection e1 with e1
    subst e1
    obtain ⟨z2, e2, _, _⟩ := DataW.trod_int Tryz.underlying3 g2
    injection e2 with e2
    subst e2
    obtain ⟨z3, e3, _, _⟩ := DataW.trod_int Tryz.underlying3 g3
    injection e3 with e3
    subst e3
    obtain ⟨A4, n4, k4, l4, e4, r4, gd4, hn4⟩ := trod_rows (cells := (fun a : Int => [Value.int .i64 a])) (Good := (fun _ : Int => True)) (k := 1) Tryz.underlying22 (by kernel_rfl) (by omega) (fun _ => rfl) (fun n cs y hl h => trod_i1 h) g4
    injection e4 with e4
    subst e4
    obtain ⟨z5, e5, _, _⟩ := DataW.trod_int Tryz.underlying3 g5
    injection e5 with e5
    subst e5
    obtain ⟨z6, z7, e6⟩ := trod_sig rfl g6
    injection e6 with e6 e6'
    injection e6' with e7
    subst e6 e7
    rw [flat_ints] at r4
    exact ⟨⟨⟨z0.data.toList, z1, z2, z3, l4, z5, z6, z7⟩, .slice A4 n4 k4⟩, rfl, r4, (by simpa using b0 : z0.data.toList.length ≤ maxLen)⟩
theorem trod_ma {fuel : Nat} {cs : List Value} {x : DataW H × List MemPlace} (hl : cs.length = 17) (h : DataW.trod enc Tryz.prog W 0 (fun _ => true) true fuel 86 cs = some x) : ∃ p : MA × Value, cs = maCells p.1 p.2 ∧ (RdK W 11 p.2 (ncsCells p.1.roots) ∧ gdM p.1) := by
  have c_C : Tryz.prog.cellsOf 26 = 1 := by kernel_rfl
  have c_N : Tryz.prog.cellsOf 39 = 11 := by kernel_rfl
  have c_S : Tryz.prog.cellsOf 37 = 2 := by kernel_rfl
  have c_i : Tryz.prog.cellsOf 3 = 1 := by kernel_rfl
  have c_s : Tryz.prog.cellsOf 9 = 1 := by kernel_rfl
  obtain ⟨xs, n, _, _, _, hlen, hg⟩ := DataW.trod_struct Tryz.underlying86 h
  match cs, hl, xs, hlen with
  | [v0, v1, v2, v3, v4, v5, v6, v7, v8, v9, v10, v11, v12, v13, v14, v15, v16], _, [y0, y1, y2, y3, y4, y5], _ =>
    have g0 : DataW.trod enc Tryz.prog W 0 (fun _ => true) true n 9 (([v0, v1, v2, v3, v4, v5, v6, v7, v8, v9, v10, v11, v12, v13, v14, v15, v16].drop 0).take (Tryz.prog.cellsOf 9)) = some y0 := hg 0 _ rfl
    rw [c_s] at g0
    have g1 : DataW.trod enc Tryz.prog W 0 (fun _ => true) true n 3 (([v0, v1, v2, v3, v4, v5, v6, v7, v8, v9, v10, v11, v12, v13, v14, v15, v16].drop 1).take (Tryz.prog.cellsOf 3)) = some y1 := hg 1 _ rfl
    rw [c_i] at g1
    have g2 : DataW.trod enc Tryz.prog W 0 (fun _ => true) true n 3 (([v0, v1, v2, v3, v4, v5, v6, v7, v8, v9, v10, v11, v12, v13, v14, v15, v16].drop 2).take (Tryz.prog.cellsOf 3)) = some y2 := hg 2 _ rfl
    rw [c_i] at g2
    have g3 : DataW.trod enc Tryz.prog W 0 (fun _ => true) true n 26 (([v0, v1, v2, v3, v4, v5, v6, v7, v8, v9, v10, v11, v12, v13, v14, v15, v16].drop 3).take (Tryz.prog.cellsOf 26)) = some y3 := hg 3 _ rfl
    rw [c_C] at g3
    have g4 : DataW.trod enc Tryz.prog W 0 (fun _ => true) true n 39 (([v0, v1, v2, v3, v4, v5, v6, v7, v8, v9, v10, v11, v12, v13, v14, v15, v16].drop 4).take (Tryz.prog.cellsOf 39)) = some y4 := hg 4 _ rfl
    rw [c_N] at g4
    have g5 : DataW.trod enc Tryz.prog W 0 (fun _ => true) true n 37 (([v0, v1, v2, v3, v4, v5, v6, v7, v8, v9, v10, v11, v12, v13, v14, v15, v16].drop 15).take (Tryz.prog.cellsOf 37)) = some y5 := hg 5 _ rfl
    rw [c_S] at g5
    simp only [List.drop_succ_cons, List.drop_zero, List.take_succ_cons, List.take_zero] at g0 g1 g2 g3 g4 g5
    obtain ⟨z0, e0, _, b0⟩ := DataW.trod_string Tryz.underlying9 g0
    injection e0 with e0
    subst e0
    obtain ⟨z1, e1, _, _⟩ := DataW.trod_int Tryz.underlying3 g1
    injection e1 with e1
    subst e1
    obtain ⟨z2, e2, _, _⟩ := DataW.trod_int Tryz.underlying3 g2
    injection e2 with e2
    subst e2
    obtain ⟨A3, n3, k3, l3, e3, r3, gd3, hn3⟩ := trod_rows (cells := ncCells) (Good := (fun c : NC => c.st.length ≤ maxLen)) (k := 11) Tryz.underlying26 (by kernel_rfl) (by omega) (fun _ => rfl) (fun n cs y hl h => trod_nc hl h) g3
    injection e3 with e3
    subst e3
    obtain ⟨z4, e4, b4⟩ := trod_nc rfl g4
    unfold ncCells at e4
    injection e4 with q0 e4
    injection e4 with q1 e4
    injection e4 with q2 e4
    injection e4 with q3 e4
    injection e4 with q4 e4
    injection e4 with q5 e4
    injection e4 with q6 e4
    injection e4 with q7 e4
    injection e4 with q8 e4
    injection e4 with q9 e4
    injection e4 with q10 e4
    subst q0 q1 q2 q3 q4 q5 q6 q7 q8 q9 q10
    obtain ⟨z15, z16, e15⟩ := trod_sig rfl g5
    injection e15 with e15 e15'
    injection e15' with e16
    subst e15 e16
    exact ⟨⟨⟨z0.data.toList, z1, z2, l3, z4, z15, z16⟩, .slice A3 n3 k3⟩, rfl, r3, (by simpa using b0 : z0.data.toList.length ≤ maxLen), b4, gd3⟩
theorem trod_dv {fuel : Nat} {cs : List Value} {x : DataW H × List MemPlace} (hl : cs.length = 17) (h : DataW.trod enc Tryz.prog W 0 (fun _ => true) true fuel 41 cs = some x) : ∃ p : DV × Value, cs = dvCells p.1 p.2 ∧ (RdK W 5 p.2 (dfsCells p.1.defs) ∧ gdD p.1) := by
  have c_D : Tryz.prog.cellsOf 35 = 1 := by kernel_rfl
  have c_N : Tryz.prog.cellsOf 39 = 11 := by kernel_rfl
  have c_S : Tryz.prog.cellsOf 37 = 2 := by kernel_rfl
  have c_i : Tryz.prog.cellsOf 3 = 1 := by kernel_rfl
  have c_s : Tryz.prog.cellsOf 9 = 1 := by kernel_rfl
  obtain ⟨xs, n, _, _, _, hlen, hg⟩ := DataW.trod_struct Tryz.underlying41 h
  match cs, hl, xs, hlen with
  | [v0, v1, v2, v3, v4, v5, v6, v7, v8, v9, v10, v11, v12, v13, v14, v15, v16], _, [y0, y1, y2, y3, y4, y5], _ =>
    have g0 : DataW.trod enc Tryz.prog W 0 (fun _ => true) true n 9 (([v0, v1, v2, v3, v4, v5, v6, v7, v8, v9, v10, v11, v12, v13, v14, v15, v16].drop 0).take (Tryz.prog.cellsOf 9)) = some y0 := hg 0 _ rfl
    rw [c_s] at g0
    have g1 : DataW.trod enc Tryz.prog W 0 (fun _ => true) true n 3 (([v0, v1, v2, v3, v4, v5, v6, v7, v8, v9, v10, v11, v12, v13, v14, v15, v16].drop 1).take (Tryz.prog.cellsOf 3)) = some y1 := hg 1 _ rfl
    rw [c_i] at g1
    have g2 : DataW.trod enc Tryz.prog W 0 (fun _ => true) true n 3 (([v0, v1, v2, v3, v4, v5, v6, v7, v8, v9, v10, v11, v12, v13, v14, v15, v16].drop 2).take (Tryz.prog.cellsOf 3)) = some y2 := hg 2 _ rfl
    rw [c_i] at g2
    have g3 : DataW.trod enc Tryz.prog W 0 (fun _ => true) true n 35 (([v0, v1, v2, v3, v4, v5, v6, v7, v8, v9, v10, v11, v12, v13, v14, v15, v16].drop 3).take (Tryz.prog.cellsOf 35)) = some y3 := hg 3 _ rfl
    rw [c_D] at g3
    have g4 : DataW.trod enc Tryz.prog W 0 (fun _ => true) true n 39 (([v0, v1, v2, v3, v4, v5, v6, v7, v8, v9, v10, v11, v12, v13, v14, v15, v16].drop 4).take (Tryz.prog.cellsOf 39)) = some y4 := hg 4 _ rfl
    rw [c_N] at g4
    have g5 : DataW.trod enc Tryz.prog W 0 (fun _ => true) true n 37 (([v0, v1, v2, v3, v4, v5, v6, v7, v8, v9, v10, v11, v12, v13, v14, v15, v16].drop 15).take (Tryz.prog.cellsOf 37)) = some y5 := hg 5 _ rfl
    rw [c_S] at g5
    simp only [List.drop_succ_cons, List.drop_zero, List.take_succ_cons, List.take_zero] at g0 g1 g2 g3 g4 g5
    obtain ⟨z0, e0, _, b0⟩ := DataW.trod_string Tryz.underlying9 g0
    injection e0 with e0
    subst e0
    obtain ⟨z1, e1, _, _⟩ := DataW.trod_int Tryz.underlying3 g1
    injection e1 with e1
    subst e1
    obtain ⟨z2, e2, _, _⟩ := DataW.trod_int Tryz.underlying3 g2
    injection e2 with e2
    subst e2
    obtain ⟨A3, n3, k3, l3, e3, r3, gd3, hn3⟩ := trod_rows (cells := dfCells) (Good := (fun d : DF => d.fi.length ≤ maxLen ∧ d.la.length ≤ maxLen)) (k := 5) Tryz.underlying35 (by kernel_rfl) (by omega) (fun _ => rfl) (fun n cs y hl h => trod_df hl h) g3
    injection e3 with e3
    subst e3
    obtain ⟨z4, e4, b4⟩ := trod_nc rfl g4
    unfold ncCells at e4
    injection e4 with q0 e4
    injection e4 with q1 e4
    injection e4 with q2 e4
    injection e4 with q3 e4
    injection e4 with q4 e4
    injection e4 with q5 e4
    injection e4 with q6 e4
    injection e4 with q7 e4
    injection e4 with q8 e4
    injection e4 with q9 e4
    injection e4 with q10 e4
    subst q0 q1 q2 q3 q4 q5 q6 q7 q8 q9 q10
    obtain ⟨z15, z16, e15⟩ := trod_sig rfl g5
    injection e15 with e15 e15'
    injection e15' with e16
    subst e15 e16
    exact ⟨⟨⟨z0.data.toList, z1, z2, l3, z4, z15, z16⟩, .slice A3 n3 k3⟩, rfl, r3, (by simpa using b0 : z0.data.toList.length ≤ maxLen), b4, gd3⟩
/-- What a store that came in holds. -/
structure StG (S : ST) : Prop where
  r : ∀ c ∈ S.roots, c.st.length ≤ maxLen
  p : ∀ c ∈ S.pool, c.st.length ≤ maxLen
  m : ∀ x ∈ S.ms, gdM x
  s : ∀ x ∈ S.rs, gdR x
  d : ∀ x ∈ S.ds, gdD x
theorem trod_st {fuel : Nat} {cs : List Value} {x : DataW H × List MemPlace} (hl : cs.length = 5) (h : DataW.trod enc Tryz.prog W 0 (fun _ => true) true fuel 31 cs = some x) : ∃ (s0 s1 s2 s3 s4 : SlT) (S : ST), cs = [slV s0, slV s1, slV s2, slV s3, slV s4] ∧ StR W s0 s1 s2 s3 s4 S ∧ StG S := by
  have c_C : Tryz.prog.cellsOf 26 = 1 := by kernel_rfl
  have c_M : Tryz.prog.cellsOf 27 = 1 := by kernel_rfl
  have c_V : Tryz.prog.cellsOf 28 = 1 := by kernel_rfl
  have c_W : Tryz.prog.cellsOf 29 = 1 := by kernel_rfl
  obtain ⟨xs, n, _, _, _, hlen, hg⟩ := DataW.trod_struct Tryz.underlying31 h
  match cs, hl, xs, hlen with
  | [v0, v1, v2, v3, v4], _, [y0, y1, y2, y3, y4], _ =>
    have g0 : DataW.trod enc Tryz.prog W 0 (fun _ => true) true n 26 (([v0, v1, v2, v3, v4].drop 0).take (Tryz.prog.cellsOf 26)) = some y0 := hg 0 _ rfl
    rw [c_C] at g0
    have g1 : DataW.trod enc Tryz.prog W 0 (fun _ => true) true n 26 (([v0, v1, v2, v3, v4].drop 1).take (Tryz.prog.cellsOf 26)) = some y1 := hg 1 _ rfl
    rw [c_C] at g1
    have g2 : DataW.trod enc Tryz.prog W 0 (fun _ => true) true n 27 (([v0, v1, v2, v3, v4].drop 2).take (Tryz.prog.cellsOf 27)) = some y2 := hg 2 _ rfl
    rw [c_M] at g2
    have g3 : DataW.trod enc Tryz.prog W 0 (fun _ => true) true n 28 (([v0, v1, v2, v3, v4].drop 3).take (Tryz.prog.cellsOf 28)) = some y3 := hg 3 _ rfl
    rw [c_V] at g3
    have g4 : DataW.trod enc Tryz.prog W 0 (fun _ => true) true n 29 (([v0, v1, v2, v3, v4].drop 4).take (Tryz.prog.cellsOf 29)) = some y4 := hg 4 _ rfl
    rw [c_W] at g4
    simp only [List.drop_succ_cons, List.drop_zero, List.take_succ_cons, List.take_zero] at g0 g1 g2 g3 g4
    obtain ⟨A0, n0, k0, l0, e0, r0, gd0, hn0⟩ := trod_rows (cells := ncCells) (Good := (fun c : NC => c.st.length ≤ maxLen)) (k := 11) Tryz.underlying26 (by kernel_rfl) (by omega) (fun _ => rfl) (fun n cs y hl h => trod_nc hl h) g0
    injection e0 with e0
    subst e0
    obtain ⟨A1, n1, k1, l1, e1, r1, gd1, hn1⟩ := trod_rows (cells := ncCells) (Good := (fun c : NC => c.st.length ≤ maxLen)) (k := 11) Tryz.underlying26 (by kernel_rfl) (by omega) (fun _ => rfl) (fun n cs y hl h => trod_nc hl h) g1
    injection e1 with e1
    subst e1
    obtain ⟨A2, n2, k2, l2, e2, r2, gd2, hn2⟩ := trod_rows (cells := (fun p : MA × Value => maCells p.1 p.2)) (Good := (fun p : MA × Value => RdK W 11 p.2 (ncsCells p.1.roots) ∧ gdM p.1)) (k := 17) Tryz.underlying27 (by kernel_rfl) (by omega) (fun _ => rfl) (fun n cs y hl h => trod_ma hl h) g2
    injection e2 with e2
    subst e2
    obtain ⟨A3, n3, k3, l3, e3, r3, gd3, hn3⟩ := trod_rows (cells := (fun p : RV × Value => rvCells p.1 p.2)) (Good := (fun p : RV × Value => RdK W 1 p.2 (intsV p.1.ser) ∧ gdR p.1)) (k := 8) Tryz.underlying28 (by kernel_rfl) (by omega) (fun _ => rfl) (fun n cs y hl h => trod_rv hl h) g3
    injection e3 with e3
    subst e3
    obtain ⟨A4, n4, k4, l4, e4, r4, gd4, hn4⟩ := trod_rows (cells := (fun p : DV × Value => dvCells p.1 p.2)) (Good := (fun p : DV × Value => RdK W 5 p.2 (dfsCells p.1.defs) ∧ gdD p.1)) (k := 17) Tryz.underlying29 (by kernel_rfl) (by omega) (fun _ => rfl) (fun n cs y hl h => trod_dv hl h) g4
    injection e4 with e4
    subst e4
    exact ⟨(A0, n0, k0), (A1, n1, k1), (A2, n2, k2), (A3, n3, k3), (A4, n4, k4), ⟨l0, l1, l2.map Prod.fst, l3.map Prod.fst, l4.map Prod.fst⟩, rfl,
      ⟨r0, r1, ⟨l2, rfl, r2, fun p hp => (gd2 p hp).1⟩, ⟨l3, rfl, r3, fun p hp => (gd3 p hp).1⟩, ⟨l4, rfl, r4, fun p hp => (gd4 p hp).1⟩⟩,
      ⟨gd0, gd1, fun x hx => by obtain ⟨p, hp, rfl⟩ := List.mem_map.1 hx; exact (gd2 p hp).2, fun x hx => by obtain ⟨p, hp, rfl⟩ := List.mem_map.1 hx; exact (gd3 p hp).2, fun x hx => by obtain ⟨p, hp, rfl⟩ := List.mem_map.1 hx; exact (gd4 p hp).2⟩⟩
end
section
variable {H : Type} {enc : TypeId × Value → H} {W : World} {base : Nat} {v : Value} {d : DataW H} {p : List MemPlace}
theorem open_dv (hv : Value.okWide Tryz.prog W .any base 41 v) (h : DataW.Trod enc Tryz.prog W 0 (fun _ => true) true 41 v d p) : ∃ (m : DV) (u : Value), v = .agg (dvCells m u).toArray ∧ RdK W 5 u (dfsCells m.defs) ∧ gdD m := by
  have hC : Tryz.prog.cellsOf 41 = 17 := by kernel_rfl
  obtain ⟨⟨cs⟩, rfl, hsz⟩ := okWide_struct Tryz.underlying41 hv
  rw [hC] at hsz
  obtain ⟨fuel, hf⟩ := h
  obtain ⟨⟨r, u⟩, e, hr, hg⟩ := trod_dv hsz hf
  have e' : cs = dvCells r u := e
  subst e'
  exact ⟨r, u, rfl, hr, hg⟩
theorem open_st (hv : Value.okWide Tryz.prog W .any base 31 v) (h : DataW.Trod enc Tryz.prog W 0 (fun _ => true) true 31 v d p) : ∃ (s0 s1 s2 s3 s4 : SlT) (S : ST), v = storeV s0 s1 s2 s3 s4 ∧ StR W s0 s1 s2 s3 s4 S ∧ StG S := by
  have hC : Tryz.prog.cellsOf 31 = 5 := by kernel_rfl
  obtain ⟨⟨cs⟩, rfl, hsz⟩ := okWide_struct Tryz.underlying31 hv
  rw [hC] at hsz
  obtain ⟨fuel, hf⟩ := h
  obtain ⟨s0, s1, s2, s3, s4, S, e, hr, hg⟩ := trod_st hsz hf
  have e' : cs = [slV s0, slV s1, slV s2, slV s3, slV s4] := e
  subst e'
  exact ⟨s0, s1, s2, s3, s4, S, rfl, hr, hg⟩
end
end Go.Proofs.YtmmoenkmicimcaaGreatDoor
namespace Go.Proofs.YtmmoenkmicimcaaGreatDoor
open Go.Joins Go.ChangeShapes Go.WideShapes Go.ChangeAt Go.RowKit Go.Deep
set_option linter.unusedVariables false
set_option maxRecDepth 100000
section
variable {H : Type} {enc : TypeId × Value → H} {W : World} {P : Program}
theorem weights_agg {t : TypeId} {fs : Array Field} {ds : List (DataW H)} (hu : P.underlying t = some (.struct fs)) : (DataW.agg ds).weights P t = DataW.weightsEach P (fs.toList.map (·.type)) ds := by
  simp only [DataW.weights, hu]
theorem slice_reach {t e : TypeId} {K : Nat} {fuel : Nat} {A : Option Addr} {n c : Nat} {x : DataW H × List MemPlace} (ht : P.underlying t = some (.slice e)) (h : DataW.trod enc P W 0 (fun _ => true) true fuel t [.slice A n c] = some x) (hw : ∀ k ∈ x.1.weights P t, k ≤ K) : n * P.bytesOf e ≤ K := by
  rcases Go.Deep.open_slice ht h with ⟨he, rfl⟩ | ⟨a, len, cap, m, n', D, Pl, he, _, _, _, _, rfl, _⟩
  · injection he with he _
    injection he with _ he _
    subst he
    omega
  · injection he with he _
    injection he with _ he _
    subst he
    have h1 := hw ((((List.range n).map D).length + ((List.range (m - n)).map fun j => D (n + j)).length) * P.bytesOf e) (by simp only [DataW.weights, ht]; exact List.mem_cons_self)
    rw [List.length_map, List.length_map, List.length_range, List.length_range] at h1
    exact Nat.le_trans (Nat.mul_le_mul_right _ (Nat.le_add_right _ _)) h1
theorem reach_st {fuel : Nat} {s0 s1 s2 s3 s4 : SlT} {x : DataW H × List MemPlace} (h : DataW.trod enc Tryz.prog W 0 (fun _ => true) true fuel 31 [slV s0, slV s1, slV s2, slV s3, slV s4] = some x) (hw : ∀ k ∈ x.1.weights Tryz.prog 31, k ≤ reachBytes) : s0.2.1 ≤ 2000000000000 ∧ s1.2.1 ≤ 2000000000000 := by
  have cC : Tryz.prog.cellsOf 26 = 1 := by kernel_rfl
  have cB : Tryz.prog.bytesOf 39 = 96 := by kernel_rfl
  obtain ⟨xs, n, _, rfl, _, hlen, hg⟩ := DataW.trod_struct Tryz.underlying31 h
  match xs, hlen with
  | [y0, y1, y2, y3, y4], _ =>
    have g0 : DataW.trod enc Tryz.prog W 0 (fun _ => true) true n 26 (([slV s0, slV s1, slV s2, slV s3, slV s4].drop 0).take (Tryz.prog.cellsOf 26)) = some y0 := hg 0 _ rfl
    have g1 : DataW.trod enc Tryz.prog W 0 (fun _ => true) true n 26 (([slV s0, slV s1, slV s2, slV s3, slV s4].drop 1).take (Tryz.prog.cellsOf 26)) = some y1 := hg 1 _ rfl
    rw [cC] at g0 g1
    simp only [List.drop_succ_cons, List.drop_zero, List.take_succ_cons, List.take_zero] at g0 g1
    have hw' := hw
    rw [weights_agg Tryz.underlying31] at hw'
    have r0 : s0.2.1 * Tryz.prog.bytesOf 39 ≤ reachBytes := slice_reach Tryz.underlying26 g0 fun k hk => hw' k (DataW.weights_mem_each (j := 0) (t := 26) (d := y0.1) rfl rfl k hk)
    have r1 : s1.2.1 * Tryz.prog.bytesOf 39 ≤ reachBytes := slice_reach Tryz.underlying26 g1 fun k hk => hw' k (DataW.weights_mem_each (j := 1) (t := 26) (d := y1.1) rfl rfl k hk)
    rw [cB] at r0 r1
    unfold reachBytes at r0 r1
    omega
theorem reach_store {s0 s1 s2 s3 s4 : SlT} {d : DataW H} {p : List MemPlace} (h : DataW.Trod enc Tryz.prog W 0 (fun _ => true) true 31 (storeV s0 s1 s2 s3 s4) d p) (hw : ∀ k ∈ d.weights Tryz.prog 31, k ≤ reachBytes) : s0.2.1 ≤ 2000000000000 ∧ s1.2.1 ≤ 2000000000000 := by
  obtain ⟨fuel, hf⟩ := h
  exact reach_st (x := (d, p)) hf hw
end
end Go.Proofs.YtmmoenkmicimcaaGreatDoor
namespace Go.Proofs.YtmmoenkmicimcaaGreatDoor
open Go.Joins Go.ChangeShapes Go.WideShapes Go.ChangeAt Go.RowKit Go.Deep
set_option linter.unusedVariables false
set_option maxRecDepth 100000
section
variable {H : Type} {enc : TypeId × Value → H} {W : World} {P : Program}
theorem weightsAll_mem {e : TypeId} : ∀ {ds : List (DataW H)} {d : DataW H}, d ∈ ds → ∀ n ∈ d.weights P e, n ∈ DataW.weightsAll P e ds
  | d0 :: ds, d, hd, n, hn => by
    simp only [DataW.weightsAll, List.mem_append]
    rcases List.mem_cons.1 hd with rfl | hd
    · exact Or.inl hn
    · exact Or.inr (weightsAll_mem hd n hn)
theorem slice_el {t e : TypeId} {fuel : Nat} {A : Option Addr} {n c : Nat} {x : DataW H × List MemPlace} (ht : P.underlying t = some (.slice e)) (h : DataW.trod enc P W 0 (fun _ => true) true fuel t [.slice A n c] = some x) (hw : ∀ k ∈ x.1.weights P t, k ≤ reachBytes) (i : Nat) (hi : i < n) :
    ∃ (a : Addr) (m : Nat) (cs' : List Value) (y : DataW H × List MemPlace), A = some a ∧ W.cells? 0 (a.add (i * P.cellsOf e)) (P.cellsOf e) = some cs' ∧ DataW.trod enc P W 0 (fun _ => true) true m e cs' = some y ∧ ∀ k ∈ y.1.weights P e, k ≤ reachBytes := by
  rcases Go.Deep.open_slice ht h with ⟨he, rfl⟩ | ⟨a, len, cap, m, n', D, Pl, he, _, hlc, _, hmm, rfl, hx⟩
  · injection he with he _
    injection he with _ he _
    omega
  · injection he with he _
    injection he with e1 he _
    subst he
    have hlm : n ≤ m := by rw [hmm]; split <;> omega
    obtain ⟨cs', h1, h2⟩ := hx i (Nat.lt_of_lt_of_le hi hlm)
    refine ⟨a, n', cs', _, e1, h1, h2, fun k hk => hw k ?_⟩
    simp only [DataW.weights, ht]
    exact List.mem_cons_of_mem _ (List.mem_append_left _ (weightsAll_mem (List.mem_map.2 ⟨i, List.mem_range.2 hi, rfl⟩) k hk))
theorem dv_reach {fuel : Nat} {r : DV} {A : Option Addr} {n c : Nat} {y : DataW H × List MemPlace} (h : DataW.trod enc Tryz.prog W 0 (fun _ => true) true fuel 41 (dvCells r (.slice A n c)) = some y) (hw : ∀ k ∈ y.1.weights Tryz.prog 41, k ≤ reachBytes) : n ≤ 2513169434843 := by
  have cC : Tryz.prog.cellsOf 35 = 1 := by kernel_rfl
  have cB : Tryz.prog.bytesOf 65 = 56 := by kernel_rfl
  obtain ⟨xs, m, _, rfl, _, hlen, hg⟩ := DataW.trod_struct Tryz.underlying41 h
  match xs, hlen with
  | [y0, y1, y2, y3, y4, y5], _ =>
    have g3 : DataW.trod enc Tryz.prog W 0 (fun _ => true) true m 35 (((dvCells r (.slice A n c)).drop 3).take (Tryz.prog.cellsOf 35)) = some y3 := hg 3 _ rfl
    rw [cC] at g3
    unfold dvCells at g3
    simp only [List.drop_succ_cons, List.drop_zero, List.take_succ_cons, List.take_zero] at g3
    have hw' := hw
    rw [weights_agg Tryz.underlying41] at hw'
    have r3 : n * Tryz.prog.bytesOf 65 ≤ reachBytes := slice_reach Tryz.underlying35 g3 fun k hk => hw' k (DataW.weights_mem_each (j := 3) (t := 35) (d := y3.1) rfl rfl k hk)
    rw [cB] at r3
    unfold reachBytes at r3
    omega
theorem reach_dv {r : DV} {u : Value} {d : DataW H} {p : List MemPlace} (h : DataW.Trod enc Tryz.prog W 0 (fun _ => true) true 41 (.agg (dvCells r u).toArray) d p) (hr : RdD W u r.defs) (hw : ∀ k ∈ d.weights Tryz.prog 41, k ≤ reachBytes) : r.defs.length ≤ 2513169434843 := by
  obtain ⟨fuel, hf⟩ := h
  obtain ⟨A, n, c, rfl, hn, -⟩ := RdD.at_ hr
  rw [← hn]
  exact dv_reach (y := (d, p)) hf hw
theorem ds_reach {fuel : Nat} {s0 s1 s2 s3 s4 : SlT} {x : DataW H × List MemPlace} (h : DataW.trod enc Tryz.prog W 0 (fun _ => true) true fuel 31 [slV s0, slV s1, slV s2, slV s3, slV s4] = some x) (hw : ∀ k ∈ x.1.weights Tryz.prog 31, k ≤ reachBytes) {l : List DV} (hr : RdX kD W (slV s4) l) : ∀ d ∈ l, d.defs.length ≤ 2513169434843 := by
  have cC : Tryz.prog.cellsOf 29 = 1 := by kernel_rfl
  have cE : Tryz.prog.cellsOf 41 = 17 := by kernel_rfl
  obtain ⟨xs, n, _, rfl, _, hlen, hg⟩ := DataW.trod_struct Tryz.underlying31 h
  match xs, hlen with
  | [y0, y1, y2, y3, y4], _ =>
    have g4 : DataW.trod enc Tryz.prog W 0 (fun _ => true) true n 29 (([slV s0, slV s1, slV s2, slV s3, slV s4].drop 4).take (Tryz.prog.cellsOf 29)) = some y4 := hg 4 _ rfl
    rw [cC] at g4
    simp only [List.drop_succ_cons, List.drop_zero, List.take_succ_cons, List.take_zero] at g4
    have hw' := hw
    rw [weights_agg Tryz.underlying31] at hw'
    have hy4 : ∀ k ∈ y4.1.weights Tryz.prog 29, k ≤ reachBytes := fun k hk => hw' k (DataW.weights_mem_each (j := 4) (t := 29) (d := y4.1) rfl rfl k hk)
    intro d hd
    obtain ⟨i, hi⟩ := List.getElem?_of_mem hd
    have hil := (List.getElem?_eq_some_iff.1 hi).1
    obtain ⟨A, k, c, hs, hk, _, _, hel⟩ := hr.at_
    unfold slV at hs g4
    rw [hs] at g4
    subst hk
    obtain ⟨b, o, hA, _, u, hcell, hu⟩ := hel i d hi
    obtain ⟨a, m, cs', y, hA2, h1, h2, h3⟩ := slice_el Tryz.underlying29 g4 hy4 i hil
    obtain rfl : a = ⟨b, o, none⟩ := Option.some.inj (hA2.symm.trans hA)
    rw [cE] at h1
    obtain ⟨_, hl', hc'⟩ := World.cells?_some h1
    have hcs : cs' = dvCells d u := by
      refine List.ext_getElem? fun j => ?_
      by_cases hj : j < 17
      · have q := hc' j hj
        rw [Addr.add_lit, Addr.add_lit, Nat.add_assoc] at q
        have hlen : (dvCells d u).length = 17 := rfl
        have e : (dvCells d u)[j]? = some ((dvCells d u)[j]'(by omega)) := List.getElem?_eq_getElem (by omega)
        rw [← q, e]
        exact hcell j _ e
      · rw [List.getElem?_eq_none (by omega), List.getElem?_eq_none (by show 17 ≤ j; omega)]
    rw [hcs] at h2
    obtain ⟨A5, n5, c5, rfl, hn5, -⟩ := RdD.at_ hu
    rw [← hn5]
    exact dv_reach h2 h3
theorem reach_ds {s0 s1 s2 s3 s4 : SlT} {d : DataW H} {p : List MemPlace} (h : DataW.Trod enc Tryz.prog W 0 (fun _ => true) true 31 (storeV s0 s1 s2 s3 s4) d p) (hw : ∀ k ∈ d.weights Tryz.prog 31, k ≤ reachBytes) {l : List DV} (hr : RdX kD W (slV s4) l) : ∀ d ∈ l, d.defs.length ≤ 2513169434843 := by
  obtain ⟨fuel, hf⟩ := h
  exact ds_reach (x := (d, p)) hf hw hr
end
end Go.Proofs.YtmmoenkmicimcaaGreatDoor
