/- Arguments by value: signatures, pairs of integers. -/
import Derived.Test.YteilglpdmfiinaaDoorP4
import Derived.Lib.SmallJoins
import Derived.OpenShut
namespace Go.Proofs.YteilglpdmfiinaaDoor
open Go.Joins Go.ChangeShapes Go.WideShapes Go.ChangeAt Go.RowKit
set_option linter.unusedVariables false
set_option maxRecDepth 100000

theorem wf_i64 {z : Int} (h : (Lit.int .i64 z).wf = true) : -9223372036854775808 ≤ z ∧ z < 9223372036854775808 := by
  simp only [Lit.wf, Bool.and_eq_true, decide_eq_true_eq] at h
  obtain ⟨h1, h2⟩ := h
  have e1 : IntKind.i64.min = -9223372036854775808 := rfl
  have e2 : IntKind.i64.max = 9223372036854775807 := rfl
  omega
section
variable {H : Type} {enc : TypeId × Value → H} {W : World} {base : Nat} {v : Value} {d : DataW H} {p : List MemPlace}
theorem open_sig (hv : Value.okWide Tryd.prog W .any base 23 v) (h : DataW.Trod enc Tryd.prog W 0 (fun _ => true) true 23 v d p) :
    ∃ e s : Int, v = .agg #[.int .i64 e, .int .i64 s] ∧ (Lit.int .i64 e).wf = true ∧ (Lit.int .i64 s).wf = true := by
  obtain ⟨v0, v1, y0, y1, n, rfl, _, _, h0, h1⟩ := open_agg2 Tryd.underlying23 (by kernel_rfl) (by kernel_rfl) hv h
  obtain ⟨e, he, _, we⟩ := DataW.trod_int Tryd.underlying3 h0
  obtain ⟨s, hs, _, ws⟩ := DataW.trod_int Tryd.underlying3 h1
  cases he
  cases hs
  exact ⟨e, s, rfl, we, ws⟩
theorem open_pair (hv : Value.okWide Tryd.prog W .any base 105 v) (h : DataW.Trod enc Tryd.prog W 0 (fun _ => true) true 105 v d p) :
    ∃ e s : Int, v = .agg #[.int .i64 e, .int .i64 s] ∧ (Lit.int .i64 e).wf = true ∧ (Lit.int .i64 s).wf = true := by
  have hu := Tryd.underlying105
  have hc : Tryd.prog.cellsOf 105 = 2 := by kernel_rfl
  have hc1 : Tryd.prog.cellsOf 3 = 1 := by kernel_rfl
  have hv' : ∃ cs : Array Value, v = .agg cs ∧ cs.size = 2 := by
    simp only [Value.okWide, hu] at hv
    obtain ⟨cs, h1, h2, _⟩ := hv
    exact ⟨cs, h1, h2.trans hc⟩
  obtain ⟨cs, rfl, hsz⟩ := hv'
  obtain ⟨c0, c1, rfl⟩ := array2 hsz
  obtain ⟨fuel, hf⟩ := h
  obtain ⟨xs, m, _, _, _, hlen, hg⟩ := DataW.trod_array hu hf
  match xs, hlen with
  | [y0, y1], _ =>
    have g0 := hg 0 (by omega)
    have g1 := hg 1 (by omega)
    simp only [hc1, Value.cells] at g0 g1
    obtain ⟨e, he, _, we⟩ := DataW.trod_int Tryd.underlying3 g0
    obtain ⟨s, hs, _, ws⟩ := DataW.trod_int Tryd.underlying3 g1
    simp at he hs
    subst he hs
    exact ⟨e, s, rfl, we, ws⟩
end
end Go.Proofs.YteilglpdmfiinaaDoor
