/- Parts P9 Op of the proof. -/
import Derived.Test.YtkjplpmogfmhkaaDoorP4
import Derived.Lib.SmallJoins
import Derived.OpenShut
import Derived.Test.YtkjplpmogfmhkaaDoorPkv
import Derived.Deep.Fields
namespace Go.Proofs.YtkjplpmogfmhkaaDoor
open Go.Joins Go.ChangeShapes Go.WideShapes Go.ChangeAt Go.RowKit
set_option linter.unusedVariables false
set_option maxRecDepth 100000

theorem wf_i64 {z : Int} (h : (Lit.int .i64 z).wf = true) : -9223372036854775808 ≤ z ∧ z < 9223372036854775808 := by
  simp only [Lit.wf, Bool.and_eq_true, decide_eq_true_eq] at h
  obtain ⟨h1, h2⟩ := h
  have e1 : IntKind.i64.min = -9223372036854775808 := rfl
  have e2 : IntKind.i64.max = 9223372036854775807 := rfl
  omega
section
variable {H : Type} {enc : TypeId × Value → H} {W : World} {base : Nat} {v : Value} {d : DataW H} {p : List MemPlace}
theorem open_sig (hv : Value.okWide Tryd.prog W .any base 28 v) (h : DataW.Trod enc Tryd.prog W 0 (fun _ => true) true 28 v d p) :
    ∃ e s : Int, v = .agg #[.int .i64 e, .int .i64 s] ∧ (Lit.int .i64 e).wf = true ∧ (Lit.int .i64 s).wf = true := by
  obtain ⟨v0, v1, y0, y1, n, rfl, _, _, h0, h1⟩ := open_agg2 Tryd.underlying28 (by kernel_rfl) (by kernel_rfl) hv h
  obtain ⟨e, he, _, we⟩ := DataW.trod_int Tryd.underlying3 h0
  obtain ⟨s, hs, _, ws⟩ := DataW.trod_int Tryd.underlying3 h1
  cases he
  cases hs
  exact ⟨e, s, rfl, we, ws⟩
end
end Go.Proofs.YtkjplpmogfmhkaaDoor

namespace Go.Proofs.YtkjplpmogfmhkaaDoor
open Go.Joins Go.ChangeShapes Go.WideShapes Go.ChangeAt Go.RowKit Go.Deep
set_option linter.unusedVariables false
set_option maxRecDepth 100000

section
variable {H : Type} {enc : TypeId × Value → H} {P : Program} {W : World} {spare : Nat → Bool} {held : Bool}
/-- A slice whose elements take k cells each. -/
theorem trod_rows {α : Type} {cells : α → List Value} {Good : α → Prop} {t e : TypeId} {k fuel : Nat} {cs : List Value} {x : DataW H × List MemPlace} (ht : P.underlying t = some (.slice e)) (hc : P.cellsOf e = k) (h0 : 0 < k) (hlen : ∀ a, (cells a).length = k)
    (hel : ∀ (n : Nat) (cs : List Value) (y : DataW H × List MemPlace), cs.length = k → DataW.trod enc P W 0 spare held n e cs = some y → ∃ a, cs = cells a ∧ Good a)
    (h : DataW.trod enc P W 0 spare held fuel t cs = some x) :
    ∃ (A : Option Addr) (n c : Nat) (l : List α), cs = [.slice A n c] ∧ RdK W k (.slice A n c) (l.flatMap cells) ∧ (∀ a ∈ l, Good a) ∧ n = l.length := by
  rcases Deep.open_slice ht h with ⟨rfl, rfl⟩ | ⟨a, len, cap, m, n, D, Pl, rfl, hb, hl, hm, hmm, rfl, hx⟩
  · exact ⟨none, 0, 0, [], rfl, RdK.nil_ W k none, fun a ha => (by cases ha), rfl⟩
  have hlm : len ≤ m := by rw [hmm]; split <;> omega
  have hi : ∀ i : Fin len, ∃ y : α, W.cells? 0 (a.add (i.1 * k)) k = some (cells y) ∧ Good y := fun i => by
    obtain ⟨cs', h1, h2⟩ := hx i.1 (Nat.lt_of_lt_of_le i.2 hlm)
    rw [hc] at h1
    obtain ⟨_, hl', _⟩ := World.cells?_some h1
    obtain ⟨y, rfl, hg⟩ := hel n cs' _ hl' h2
    exact ⟨y, h1, hg⟩
  have hL : (List.ofFn fun i => Classical.choose (hi i)).length = len := by simp
  have hG : ∀ i (h : i < (List.ofFn fun i => Classical.choose (hi i)).length), W.cells? 0 (a.add (i * k)) k = some (cells (List.ofFn fun i => Classical.choose (hi i))[i]) ∧ Good (List.ofFn fun i => Classical.choose (hi i))[i] := fun i h => by
    rw [List.getElem_ofFn]
    exact Classical.choose_spec (hi ⟨i, by simpa using h⟩)
  generalize (List.ofFn fun i => Classical.choose (hi i)) = l at hL hG
  refine ⟨some a, len, cap, l, rfl, ⟨some a, len, cap, rfl, ?_, hl, hm, fun hp => ?_⟩, fun y hy => ?_, hL.symm⟩
  · rw [flat_len cells k hlen l, hL]
  · obtain ⟨b, off, sp⟩ := a
    have hsp : sp = none := by
      obtain ⟨_, hl', hcell⟩ := World.cells?_some (hG 0 (by omega)).1
      have h1 := hcell 0 h0
      rw [List.getElem?_eq_getElem (by rw [hl']; exact h0)] at h1
      have h2 := World.cell?_spot h1
      cases sp with
      | none => rfl
      | some q => simp [Addr.add] at h2
    subst hsp
    refine ⟨b, off, rfl, fun j u hu => ?_⟩
    have hj : j < l.length * k := by rw [← flat_len cells k hlen l]; exact (List.getElem?_eq_some_iff.1 hu).1
    have hdiv : j / k < l.length := Nat.div_lt_of_lt_mul (by rw [Nat.mul_comm]; exact hj)
    obtain ⟨_, hl', hcell⟩ := World.cells?_some (hG (j / k) hdiv).1
    have h1 := hcell (j % k) (Nat.mod_lt _ h0)
    have ej : j / k * k + j % k = j := by rw [Nat.mul_comm]; exact Nat.div_add_mod j k
    have e1 := flat_get cells k hlen l (j / k) hdiv (j % k) (Nat.mod_lt _ h0)
    rw [ej, hu] at e1
    rw [← e1, Addr.add_lit, Addr.add_lit, Nat.add_assoc, ej] at h1
    exact h1
  · obtain ⟨i, hi', rfl⟩ := List.getElem_of_mem hy
    exact (hG i hi').2
end

section
variable {H : Type} {enc : TypeId × Value → H} {W : World}
theorem trod_sig {fuel : Nat} {cs : List Value} {x : DataW H × List MemPlace} (hl : cs.length = 2) (h : DataW.trod enc Tryd.prog W 0 (fun _ => true) true fuel 28 cs = some x) : ∃ (e : Int) (s : Int), cs = [.int .i64 e, .int .i64 s] := by
  have c2 : Tryd.prog.cellsOf 3 = 1 := by kernel_rfl
  obtain ⟨xs, n, _, _, _, hlen, hg⟩ := DataW.trod_struct Tryd.underlying28 h
  match cs, hl, xs, hlen with
  | [v0, v1], _, [y0, y1], _ =>
    have g0 : DataW.trod enc Tryd.prog W 0 (fun _ => true) true n 3 (([v0, v1].drop 0).take (Tryd.prog.cellsOf 3)) = some y0 := hg 0 _ rfl
    rw [c2] at g0
    have g1 : DataW.trod enc Tryd.prog W 0 (fun _ => true) true n 3 (([v0, v1].drop 1).take (Tryd.prog.cellsOf 3)) = some y1 := hg 1 _ rfl
    rw [c2] at g1
    simp only [List.drop_succ_cons, List.drop_zero, List.take_succ_cons, List.take_zero] at g0 g1
    obtain ⟨z0, e0, _, _⟩ := DataW.trod_int Tryd.underlying3 g0
    obtain ⟨z1, e1, _, _⟩ := DataW.trod_int Tryd.underlying3 g1
    injection e0 with e0
    subst e0
    injection e1 with e1
    subst e1
    exact ⟨z0, z1, rfl⟩
theorem trod_tp {fuel : Nat} {cs : List Value} {x : DataW H × List MemPlace} (hl : cs.length = 5) (h : DataW.trod enc Tryd.prog W 0 (fun _ => true) true fuel 43 cs = some x) : ∃ a : TP, cs = tpCells a ∧ a.ho.length ≤ maxLen := by
  have c1 : Tryd.prog.cellsOf 9 = 1 := by kernel_rfl
  have c2 : Tryd.prog.cellsOf 3 = 1 := by kernel_rfl
  obtain ⟨xs, n, _, _, _, hlen, hg⟩ := DataW.trod_struct Tryd.underlying43 h
  match cs, hl, xs, hlen with
  | [v0, v1, v2, v3, v4], _, [y0, y1, y2, y3, y4], _ =>
    have g0 : DataW.trod enc Tryd.prog W 0 (fun _ => true) true n 9 (([v0, v1, v2, v3, v4].drop 0).take (Tryd.prog.cellsOf 9)) = some y0 := hg 0 _ rfl
    rw [c1] at g0
    have g1 : DataW.trod enc Tryd.prog W 0 (fun _ => true) true n 3 (([v0, v1, v2, v3, v4].drop 1).take (Tryd.prog.cellsOf 3)) = some y1 := hg 1 _ rfl
    rw [c2] at g1
    have g2 : DataW.trod enc Tryd.prog W 0 (fun _ => true) true n 3 (([v0, v1, v2, v3, v4].drop 2).take (Tryd.prog.cellsOf 3)) = some y2 := hg 2 _ rfl
    rw [c2] at g2
    have g3 : DataW.trod enc Tryd.prog W 0 (fun _ => true) true n 3 (([v0, v1, v2, v3, v4].drop 3).take (Tryd.prog.cellsOf 3)) = some y3 := hg 3 _ rfl
    rw [c2] at g3
    have g4 : DataW.trod enc Tryd.prog W 0 (fun _ => true) true n 3 (([v0, v1, v2, v3, v4].drop 4).take (Tryd.prog.cellsOf 3)) = some y4 := hg 4 _ rfl
    rw [c2] at g4
    simp only [List.drop_succ_cons, List.drop_zero, List.take_succ_cons, List.take_zero] at g0 g1 g2 g3 g4
    obtain ⟨z0, e0, _, b0⟩ := DataW.trod_string Tryd.underlying9 g0
    obtain ⟨z1, e1, _, _⟩ := DataW.trod_int Tryd.underlying3 g1
    obtain ⟨z2, e2, _, _⟩ := DataW.trod_int Tryd.underlying3 g2
    obtain ⟨z3, e3, _, _⟩ := DataW.trod_int Tryd.underlying3 g3
    obtain ⟨z4, e4, _, _⟩ := DataW.trod_int Tryd.underlying3 g4
    injection e0 with e0
    subst e0
    injection e1 with e1
    subst e1
    injection e2 with e2
    subst e2
    injection e3 with e3
    subst e3
    injection e4 with e4
    subst e4
    exact ⟨⟨z0.data.toList, z1, z2, z3, z4⟩, rfl, (by simpa using b0)⟩
theorem trod_tr {fuel : Nat} {cs : List Value} {x : DataW H × List MemPlace} (hl : cs.length = 2) (h : DataW.trod enc Tryd.prog W 0 (fun _ => true) true fuel 24 cs = some x) : ∃ (Aps : Option Addr) (nps cps : Nat) (ps : List TP) (dt : Int), cs = [.slice Aps nps cps, .int .i64 dt] ∧ RdK W 5 (.slice Aps nps cps) (ps.flatMap tpCells) ∧ (∀ a ∈ ps, (fun p : TP => p.ho.length ≤ maxLen) a) ∧ nps = ps.length := by
  have c2 : Tryd.prog.cellsOf 3 = 1 := by kernel_rfl
  have c_tp : Tryd.prog.cellsOf 22 = 1 := by kernel_rfl
  obtain ⟨xs, n, _, _, _, hlen, hg⟩ := DataW.trod_struct Tryd.underlying24 h
  match cs, hl, xs, hlen with
  | [v0, v1], _, [y0, y1], _ =>
    have g0 : DataW.trod enc Tryd.prog W 0 (fun _ => true) true n 22 (([v0, v1].drop 0).take (Tryd.prog.cellsOf 22)) = some y0 := hg 0 _ rfl
    rw [c_tp] at g0
    have g1 : DataW.trod enc Tryd.prog W 0 (fun _ => true) true n 3 (([v0, v1].drop 1).take (Tryd.prog.cellsOf 3)) = some y1 := hg 1 _ rfl
    rw [c2] at g1
    simp only [List.drop_succ_cons, List.drop_zero, List.take_succ_cons, List.take_zero] at g0 g1
    obtain ⟨A0, n0, k0, l0, e0, r0, gd0, hn0⟩ := trod_rows (cells := tpCells) (Good := (fun p : TP => p.ho.length ≤ maxLen)) (k := 5) Tryd.underlying22 (by kernel_rfl) (by omega) (fun _ => rfl) (fun n cs y hl h => trod_tp hl h) g0
    obtain ⟨z1, e1, _, _⟩ := DataW.trod_int Tryd.underlying3 g1
    injection e0 with e0
    subst e0
    injection e1 with e1
    subst e1
    exact ⟨A0, n0, k0, l0, z1, rfl, r0, gd0, hn0⟩
end
section
variable {H : Type} {enc : TypeId × Value → H} {W : World} {base : Nat} {v : Value} {d : DataW H} {p : List MemPlace}
theorem open_tr (hv : Value.okWide Tryd.prog W .any base 24 v) (h : DataW.Trod enc Tryd.prog W 0 (fun _ => true) true 24 v d p) :
    ∃ t : TR, TrR W v t ∧ smR t.ps := by
  have hC : Tryd.prog.cellsOf 24 = 2 := by kernel_rfl
  obtain ⟨⟨cs⟩, rfl, hsz⟩ := okWide_struct Tryd.underlying24 hv
  rw [hC] at hsz
  obtain ⟨fuel, hf⟩ := h
  obtain ⟨A, n, c, l, dt, e, r, hg, hn⟩ := trod_tr hsz hf
  have e' : cs = [.slice A n c, .int .i64 dt] := e
  subst e'
  exact ⟨⟨l, dt⟩, ⟨A, n, c, rfl, r⟩, hg⟩
theorem open_str (hv : Value.okWide Tryd.prog W .any base 9 v) (h : DataW.Trod enc Tryd.prog W 0 (fun _ => true) true 9 v d p) : ∃ l : List UInt8, v = .string (bstr l) ∧ l.length ≤ maxLen := by
  obtain ⟨s, rfl⟩ := okWide_string Tryd.underlying9 hv
  obtain ⟨fuel, hf⟩ := h
  obtain ⟨z, e, _, hz⟩ := DataW.trod_string Tryd.underlying9 hf
  have e' : [Value.string s] = [Value.string z] := e
  injection e' with e' _
  injection e' with e'
  subst e'
  exact ⟨s.data.toList, rfl, by simpa using hz⟩
end
end Go.Proofs.YtkjplpmogfmhkaaDoor
