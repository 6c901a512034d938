/- Parts Hd Pkp FNationalcertBack of the proof. -/
import Derived.Test.YteilglpdmfiinaaGreatDoorP4
import Derived.Lib.SmallJoins
import Derived.OpenShut
import Derived.Test.YteilglpdmfiinaaGreatDoorPkn
import Derived.Deep.Fields
import Derived.Test.YteilglpdmfiinaaGreatDoorPkr
namespace Go.Proofs.YteilglpdmfiinaaGreatDoor
open Go.ChangeShapes Go.WideShapes Go.ChangeAt Go.RowKit
def sg (l : List Nat) : List Char := l.map Char.ofNat
def headNums : List Nat := [104, 97, 114, 110, 101, 115, 115, 32, 54, 55, 57, 97, 57, 56, 102, 48, 57, 54, 102, 57, 97, 52, 57, 54, 102, 49, 49, 101, 52, 102, 102, 99, 100, 52, 56, 49, 55, 54, 56, 97,
  55, 97, 99, 101, 57, 50, 55, 56, 53, 52, 57, 52, 49, 53, 98, 56, 100, 101, 52, 53, 54, 53, 52, 97, 48, 56, 55, 98, 53, 55, 55, 97, 32, 99, 117, 116, 32, 97, 116, 32,
  116, 114, 97, 118, 101, 108, 100, 111, 99, 47, 116, 114, 97, 118, 101, 108, 100, 111, 99, 108, 97, 119, 50, 52, 46, 84, 101, 114, 109, 105, 110, 97, 108, 99, 101, 114, 116, 68, 101, 99,
  111, 100, 101, 115, 32, 116, 114, 97, 118, 101, 108, 100, 111, 99, 47, 116, 114, 97, 118, 101, 108, 100, 111, 99, 108, 97, 119, 50, 52, 46, 84, 101, 114, 109, 105, 110, 97, 108, 99, 101,
  114, 116, 73, 115, 115, 117, 101, 115, 32, 116, 114, 97, 118, 101, 108, 100, 111, 99, 47, 116, 114, 97, 118, 101, 108, 100, 111, 99, 108, 97, 119, 50, 52, 46, 84, 101, 114, 109, 105, 110,
  97, 108, 99, 101, 114, 116, 66, 97, 99, 107, 32, 116, 114, 97, 118, 101, 108, 100, 111, 99, 47, 116, 114, 97, 118, 101, 108, 100, 111, 99, 108, 97, 119, 50, 54, 46, 84, 101, 114, 109,
  105, 110, 97, 108, 99, 104, 97, 105, 110, 83, 116, 97, 114, 116, 115, 32, 116, 114, 97, 118, 101, 108, 100, 111, 99, 47, 116, 114, 97, 118, 101, 108, 100, 111, 99, 108, 97, 119, 50, 54,
  46, 84, 101, 114, 109, 105, 110, 97, 108, 99, 104, 97, 105, 110, 73, 109, 112, 111, 114, 116, 115, 32, 116, 114, 97, 118, 101, 108, 100, 111, 99, 47, 116, 114, 97, 118, 101, 108, 100, 111,
  99, 108, 97, 119, 50, 54, 46, 84, 101, 114, 109, 105, 110, 97, 108, 99, 104, 97, 105, 110, 80, 97, 116, 104, 115, 32, 116, 114, 97, 118, 101, 108, 100, 111, 99, 47, 116, 114, 97, 118,
  101, 108, 100, 111, 99, 108, 97, 119, 50, 54, 46, 84, 101, 114, 109, 105, 110, 97, 108, 99, 104, 97, 105, 110, 82, 105, 103, 104, 116, 115, 32, 116, 114, 97, 118, 101, 108, 100, 111, 99,
  47, 116, 114, 97, 118, 101, 108, 100, 111, 99, 108, 97, 119, 50, 57, 46, 78, 97, 116, 105, 111, 110, 97, 108, 99, 101, 114, 116, 68, 101, 99, 111, 100, 101, 115, 32, 116, 114, 97, 118,
  101, 108, 100, 111, 99, 47, 116, 114, 97, 118, 101, 108, 100, 111, 99, 108, 97, 119, 50, 57, 46, 78, 97, 116, 105, 111, 110, 97, 108, 99, 101, 114, 116, 73, 115, 115, 117, 101, 115, 32,
  116, 114, 97, 118, 101, 108, 100, 111, 99, 47, 116, 114, 97, 118, 101, 108, 100, 111, 99, 108, 97, 119, 50, 57, 46, 78, 97, 116, 105, 111, 110, 97, 108, 99, 101, 114, 116, 66, 97, 99,
  107, 32, 116, 114, 97, 118, 101, 108, 100, 111, 99, 47, 116, 114, 97, 118, 101, 108, 100, 111, 99, 108, 97, 119, 51, 48, 46, 78, 97, 116, 105, 111, 110, 97, 108, 99, 104, 97, 105, 110,
  80, 114, 111, 118, 101, 115, 32, 116, 114, 97, 118, 101, 108, 100, 111, 99, 47, 116, 114, 97, 118, 101, 108, 100, 111, 99, 108, 97, 119, 51, 48, 46, 78, 97, 116, 105, 111, 110, 97, 108,
  99, 104, 97, 105, 110, 77, 97, 100, 101, 32, 116, 114, 97, 118, 101, 108, 100, 111, 99, 47, 116, 114, 97, 118, 101, 108, 100, 111, 99, 108, 97, 119, 51, 48, 46, 78, 97, 116, 105, 111,
  110, 97, 108, 99, 104, 97, 105, 110, 71, 114, 111, 119, 115]
def headSigns : List Char := sg headNums
def headTail : List (List Char) := [sg [97, 116],
  sg [116, 114, 97, 118, 101, 108, 100, 111, 99, 47, 116, 114, 97, 118, 101, 108, 100, 111, 99, 108, 97, 119, 50, 52, 46, 84, 101, 114, 109, 105, 110, 97, 108, 99, 101, 114, 116, 68, 101, 99, 111, 100, 101, 115],
  sg [116, 114, 97, 118, 101, 108, 100, 111, 99, 47, 116, 114, 97, 118, 101, 108, 100, 111, 99, 108, 97, 119, 50, 52, 46, 84, 101, 114, 109, 105, 110, 97, 108, 99, 101, 114, 116, 73, 115, 115, 117, 101, 115],
  sg [116, 114, 97, 118, 101, 108, 100, 111, 99, 47, 116, 114, 97, 118, 101, 108, 100, 111, 99, 108, 97, 119, 50, 52, 46, 84, 101, 114, 109, 105, 110, 97, 108, 99, 101, 114, 116, 66, 97, 99, 107],
  sg [116, 114, 97, 118, 101, 108, 100, 111, 99, 47, 116, 114, 97, 118, 101, 108, 100, 111, 99, 108, 97, 119, 50, 54, 46, 84, 101, 114, 109, 105, 110, 97, 108, 99, 104, 97, 105, 110, 83, 116, 97, 114, 116, 115],
  sg [116, 114, 97, 118, 101, 108, 100, 111, 99, 47, 116, 114, 97, 118, 101, 108, 100, 111, 99, 108, 97, 119, 50, 54, 46, 84, 101, 114, 109, 105, 110, 97, 108, 99, 104, 97, 105, 110, 73, 109, 112, 111, 114, 116, 115],
  sg [116, 114, 97, 118, 101, 108, 100, 111, 99, 47, 116, 114, 97, 118, 101, 108, 100, 111, 99, 108, 97, 119, 50, 54, 46, 84, 101, 114, 109, 105, 110, 97, 108, 99, 104, 97, 105, 110, 80, 97, 116, 104, 115],
  sg [116, 114, 97, 118, 101, 108, 100, 111, 99, 47, 116, 114, 97, 118, 101, 108, 100, 111, 99, 108, 97, 119, 50, 54, 46, 84, 101, 114, 109, 105, 110, 97, 108, 99, 104, 97, 105, 110, 82, 105, 103, 104, 116, 115],
  sg [116, 114, 97, 118, 101, 108, 100, 111, 99, 47, 116, 114, 97, 118, 101, 108, 100, 111, 99, 108, 97, 119, 50, 57, 46, 78, 97, 116, 105, 111, 110, 97, 108, 99, 101, 114, 116, 68, 101, 99, 111, 100, 101, 115],
  sg [116, 114, 97, 118, 101, 108, 100, 111, 99, 47, 116, 114, 97, 118, 101, 108, 100, 111, 99, 108, 97, 119, 50, 57, 46, 78, 97, 116, 105, 111, 110, 97, 108, 99, 101, 114, 116, 73, 115, 115, 117, 101, 115],
  sg [116, 114, 97, 118, 101, 108, 100, 111, 99, 47, 116, 114, 97, 118, 101, 108, 100, 111, 99, 108, 97, 119, 50, 57, 46, 78, 97, 116, 105, 111, 110, 97, 108, 99, 101, 114, 116, 66, 97, 99, 107],
  sg [116, 114, 97, 118, 101, 108, 100, 111, 99, 47, 116, 114, 97, 118, 101, 108, 100, 111, 99, 108, 97, 119, 51, 48, 46, 78, 97, 116, 105, 111, 110, 97, 108, 99, 104, 97, 105, 110, 80, 114, 111, 118, 101, 115],
  sg [116, 114, 97, 118, 101, 108, 100, 111, 99, 47, 116, 114, 97, 118, 101, 108, 100, 111, 99, 108, 97, 119, 51, 48, 46, 78, 97, 116, 105, 111, 110, 97, 108, 99, 104, 97, 105, 110, 77, 97, 100, 101],
  sg [116, 114, 97, 118, 101, 108, 100, 111, 99, 47, 116, 114, 97, 118, 101, 108, 100, 111, 99, 108, 97, 119, 51, 48, 46, 78, 97, 116, 105, 111, 110, 97, 108, 99, 104, 97, 105, 110, 71, 114, 111, 119, 115]]
def headWords : List (List Char) := sg [99, 117, 116] :: headTail
def sumSigns : List Char := sg [54, 55, 57, 97, 57, 56, 102, 48, 57, 54, 102, 57, 97, 52, 57, 54, 102, 49, 49, 101, 52, 102, 102, 99, 100, 52, 56, 49, 55, 54, 56, 97, 55, 97, 99, 101, 57, 50, 55, 56, 53, 52, 57, 52, 49, 53, 98, 56, 100, 101, 52, 53, 54, 53, 52, 97, 48, 56, 55, 98, 53, 55, 55, 97]
theorem head_of : Tryz.prog.initOrder = String.ofList headSigns := by kernel_rfl
theorem sum_of : "679a98f096f9a496f11e4ffcd481768a7ace9278549415b8de45654a087b577a" = String.ofList sumSigns := by kernel_rfl
theorem head_signs : Tryz.prog.initOrder.toList = headSigns := by
  rw [head_of, String.toList_ofList]
set_option maxRecDepth 100000 in
theorem head_words : behindMainWord (wordsSigns headSigns) = headWords := by decide +kernel
theorem head_all : behindMainWord (wordsSigns Tryz.prog.initOrder.toList) = sg [99, 117, 116] :: headTail := by rw [head_signs, head_words]; rfl
set_option maxRecDepth 100000 in
theorem head_main : (match wordsSigns headSigns with
  | h :: s :: _ => if !isSumSigns s then none else if h == "harness".toList then some (true, s) else if h == "ownmain".toList then some (false, s) else none
  | _ => none) = some (true, sumSigns) := by decide +kernel
theorem pf_main : Tryz.prog.mainIs = some (true, ("679a98f096f9a496f11e4ffcd481768a7ace9278549415b8de45654a087b577a" : String).toList) := by
  rw [sum_of, String.toList_ofList]
  unfold Program.mainIs
  rw [head_signs]
  exact head_main
theorem cut_signs : sg [99, 117, 116] = "cut".toList := by decide +kernel
theorem make_cut {P : Program} {r : List (List Char)} (h : behindMainWord (wordsSigns P.initOrder.toList) = sg [99, 117, 116] :: r) : P.make = some .cut := by
  unfold Program.make
  rw [h]
  rfl
theorem lifts_cut {P : Program} {r : List (List Char)} (h : behindMainWord (wordsSigns P.initOrder.toList) = sg [99, 117, 116] :: r) : P.headLifts = [] := by
  unfold Program.headLifts
  rw [h]
  rfl
theorem final_cut {P : Program} {r : List (List Char)} (h : behindMainWord (wordsSigns P.initOrder.toList) = sg [99, 117, 116] :: r) : P.liftsFinal = false := by
  unfold Program.liftsFinal
  rw [lifts_cut h, h]
  rfl
theorem enter_cut {P : Program} {r : List (List Char)} (h : behindMainWord (wordsSigns P.initOrder.toList) = sg [99, 117, 116] :: r) (h1 : P.laysLater = false) (h2 : P.bearsReflect = false) (h3 : P.doorFits [] = true) : P.mayEnter = true := by
  have e : stripLifts liftWords (sg [99, 117, 116] :: r) = ([], sg [99, 117, 116] :: r) := rfl
  unfold Program.mayEnter
  rw [h]
  simp only [e, h1, h2, h3]
  rfl
theorem pf_make : Tryz.prog.make = some .cut := make_cut head_all
theorem pf_final : Tryz.prog.liftsFinal = false := final_cut head_all
theorem pf_later : Tryz.prog.laysLater = false := by kernel_rfl
theorem pf_reflect : Tryz.prog.bearsReflect = false := by kernel_rfl
theorem pf_door : Tryz.prog.doorFits [] = true := by kernel_rfl
theorem pf_enter : Tryz.prog.mayEnter = true := enter_cut head_all pf_later pf_reflect pf_door
theorem pf_looks : false = Tryz.prog.looks [] := by kernel_rfl
end Go.Proofs.YteilglpdmfiinaaGreatDoor

namespace Go.Proofs.YteilglpdmfiinaaGreatDoor
open Go.Joins Go.ChangeShapes Go.WideShapes Go.ChangeAt Go.RowKit
set_option linter.unusedVariables false
set_option maxRecDepth 100000

theorem wf_i64 {z : Int} (h : (Lit.int .i64 z).wf = true) : -9223372036854775808 ≤ z ∧ z < 9223372036854775808 := by
  simp only [Lit.wf, Bool.and_eq_true, decide_eq_true_eq] at h
  obtain ⟨h1, h2⟩ := h
  have e1 : IntKind.i64.min = -9223372036854775808 := rfl
  have e2 : IntKind.i64.max = 9223372036854775807 := rfl
  omega
section
variable {H : Type} {enc : TypeId × Value → H} {W : World} {base : Nat} {v : Value} {d : DataW H} {p : List MemPlace}
theorem open_sig (hv : Value.okWide Tryz.prog W .any base 25 v) (h : DataW.Trod enc Tryz.prog W 0 (fun _ => true) true 25 v d p) :
    ∃ e s : Int, v = .agg #[.int .i64 e, .int .i64 s] ∧ (Lit.int .i64 e).wf = true ∧ (Lit.int .i64 s).wf = true := by
  obtain ⟨v0, v1, y0, y1, n, rfl, _, _, h0, h1⟩ := open_agg2 Tryz.underlying25 (by kernel_rfl) (by kernel_rfl) hv h
  obtain ⟨e, he, _, we⟩ := DataW.trod_int Tryz.underlying3 h0
  obtain ⟨s, hs, _, ws⟩ := DataW.trod_int Tryz.underlying3 h1
  cases he
  cases hs
  exact ⟨e, s, rfl, we, ws⟩
theorem open_pair (hv : Value.okWide Tryz.prog W .any base 172 v) (h : DataW.Trod enc Tryz.prog W 0 (fun _ => true) true 172 v d p) :
    ∃ e s : Int, v = .agg #[.int .i64 e, .int .i64 s] ∧ (Lit.int .i64 e).wf = true ∧ (Lit.int .i64 s).wf = true := by
  have hu := Tryz.underlying172
  have hc : Tryz.prog.cellsOf 172 = 2 := by kernel_rfl
  have hc1 : Tryz.prog.cellsOf 3 = 1 := by kernel_rfl
  have hv' : ∃ cs : Array Value, v = .agg cs ∧ cs.size = 2 := by
    simp only [Value.okWide, hu] at hv
    obtain ⟨cs, h1, h2, _⟩ := hv
    exact ⟨cs, h1, h2.trans hc⟩
  obtain ⟨cs, rfl, hsz⟩ := hv'
  obtain ⟨c0, c1, rfl⟩ := array2 hsz
  obtain ⟨fuel, hf⟩ := h
  obtain ⟨xs, m, _, _, _, hlen, hg⟩ := DataW.trod_array hu hf
  match xs, hlen with
  | [y0, y1], _ =>
    have g0 := hg 0 (by omega)
    have g1 := hg 1 (by omega)
    simp only [hc1, Value.cells] at g0 g1
    obtain ⟨e, he, _, we⟩ := DataW.trod_int Tryz.underlying3 g0
    obtain ⟨s, hs, _, ws⟩ := DataW.trod_int Tryz.underlying3 g1
    simp at he hs
    subst he hs
    exact ⟨e, s, rfl, we, ws⟩
end
end Go.Proofs.YteilglpdmfiinaaGreatDoor

namespace Go.Proofs.YteilglpdmfiinaaGreatDoor
open Go.Joins Go.ChangeShapes Go.WideShapes Go.ChangeAt Go.RowKit Go.Deep
set_option linter.unusedVariables false
set_option maxRecDepth 100000

theorem nc_mk (s0 : ByteArray) (z1 z2 z3 z4 z5 z6 z7 z8 z9 z10 : Int) : (Value.agg #[.string s0, .int .i64 z1, .int .i64 z2, .int .i64 z3, .int .i64 z4, .int .i64 z5, .int .i64 z6, .int .i64 z7, .int .i64 z8, .int .i64 z9, .int .i64 z10]) = ncV ⟨s0.data.toList, z1, z2, z3, z4, z5, z6, z7, z8, z9, z10⟩ := rfl
section
variable {H : Type} {enc : TypeId × Value → H} {W : World} {base : Nat} {v : Value} {d : DataW H} {p : List MemPlace}
theorem open_nc (hv : Value.okWide Tryz.prog W .any base 64 v) (h : DataW.Trod enc Tryz.prog W 0 (fun _ => true) true 64 v d p) :
    ∃ c : NC, v = ncV c := by
  have hC : Tryz.prog.cellsOf 64 = 11 := by kernel_rfl
  have c1 : Tryz.prog.cellsOf 9 = 1 := by kernel_rfl
  have c2 : Tryz.prog.cellsOf 3 = 1 := by kernel_rfl
  have c3 : Tryz.prog.cellsOf 25 = 2 := by kernel_rfl
  obtain ⟨cs, rfl, hsz⟩ := okWide_struct Tryz.underlying64 hv
  rw [hC] at hsz
  obtain ⟨fuel, hf⟩ := h
  obtain ⟨xs, n, _, _, _, hlen, hg⟩ := DataW.trod_struct Tryz.underlying64 hf
  obtain ⟨l⟩ := cs
  match l, hsz, xs, hlen with
  | [v0, v1, v2, v3, v4, v5, v6, v7, v8, v9, v10], _, [y0, y1, y2, y3, y4, y5, y6, y7, y8, y9], _ =>
    have g0 : DataW.trod enc Tryz.prog W 0 (fun _ => true) true n 9 (([v0, v1, v2, v3, v4, v5, v6, v7, v8, v9, v10].drop 0).take (Tryz.prog.cellsOf 9)) = some y0 := hg 0 _ rfl
    have g1 : DataW.trod enc Tryz.prog W 0 (fun _ => true) true n 3 (([v0, v1, v2, v3, v4, v5, v6, v7, v8, v9, v10].drop 1).take (Tryz.prog.cellsOf 3)) = some y1 := hg 1 _ rfl
    have g2 : DataW.trod enc Tryz.prog W 0 (fun _ => true) true n 3 (([v0, v1, v2, v3, v4, v5, v6, v7, v8, v9, v10].drop 2).take (Tryz.prog.cellsOf 3)) = some y2 := hg 2 _ rfl
    have g3 : DataW.trod enc Tryz.prog W 0 (fun _ => true) true n 3 (([v0, v1, v2, v3, v4, v5, v6, v7, v8, v9, v10].drop 3).take (Tryz.prog.cellsOf 3)) = some y3 := hg 3 _ rfl
    have g4 : DataW.trod enc Tryz.prog W 0 (fun _ => true) true n 3 (([v0, v1, v2, v3, v4, v5, v6, v7, v8, v9, v10].drop 4).take (Tryz.prog.cellsOf 3)) = some y4 := hg 4 _ rfl
    have g5 : DataW.trod enc Tryz.prog W 0 (fun _ => true) true n 3 (([v0, v1, v2, v3, v4, v5, v6, v7, v8, v9, v10].drop 5).take (Tryz.prog.cellsOf 3)) = some y5 := hg 5 _ rfl
    have g6 : DataW.trod enc Tryz.prog W 0 (fun _ => true) true n 3 (([v0, v1, v2, v3, v4, v5, v6, v7, v8, v9, v10].drop 6).take (Tryz.prog.cellsOf 3)) = some y6 := hg 6 _ rfl
    have g7 : DataW.trod enc Tryz.prog W 0 (fun _ => true) true n 3 (([v0, v1, v2, v3, v4, v5, v6, v7, v8, v9, v10].drop 7).take (Tryz.prog.cellsOf 3)) = some y7 := hg 7 _ rfl
    have g8 : DataW.trod enc Tryz.prog W 0 (fun _ => true) true n 3 (([v0, v1, v2, v3, v4, v5, v6, v7, v8, v9, v10].drop 8).take (Tryz.prog.cellsOf 3)) = some y8 := hg 8 _ rfl
    have g9 : DataW.trod enc Tryz.prog W 0 (fun _ => true) true n 25 (([v0, v1, v2, v3, v4, v5, v6, v7, v8, v9, v10].drop 9).take (Tryz.prog.cellsOf 25)) = some y9 := hg 9 _ rfl
    rw [c1] at g0
    rw [c2] at g1 g2 g3 g4 g5 g6 g7 g8
    rw [c3] at g9
    simp only [List.drop_succ_cons, List.drop_zero, List.take_succ_cons, List.take_zero] at g0 g1 g2 g3 g4 g5 g6 g7 g8 g9
    obtain ⟨z0, e0, _, _⟩ := DataW.trod_string Tryz.underlying9 g0
    obtain ⟨z1, e1, _, _⟩ := DataW.trod_int Tryz.underlying3 g1
    obtain ⟨z2, e2, _, _⟩ := DataW.trod_int Tryz.underlying3 g2
    obtain ⟨z3, e3, _, _⟩ := DataW.trod_int Tryz.underlying3 g3
    obtain ⟨z4, e4, _, _⟩ := DataW.trod_int Tryz.underlying3 g4
    obtain ⟨z5, e5, _, _⟩ := DataW.trod_int Tryz.underlying3 g5
    obtain ⟨z6, e6, _, _⟩ := DataW.trod_int Tryz.underlying3 g6
    obtain ⟨z7, e7, _, _⟩ := DataW.trod_int Tryz.underlying3 g7
    obtain ⟨z8, e8, _, _⟩ := DataW.trod_int Tryz.underlying3 g8
    obtain ⟨ys, m, _, _, _, hlen2, hg2⟩ := DataW.trod_struct Tryz.underlying25 g9
    match ys, hlen2 with
    | [u0, u1], _ =>
    have g10 : DataW.trod enc Tryz.prog W 0 (fun _ => true) true m 3 (([v9, v10].drop 0).take (Tryz.prog.cellsOf 3)) = some u0 := hg2 0 _ rfl
    have g11 : DataW.trod enc Tryz.prog W 0 (fun _ => true) true m 3 (([v9, v10].drop 1).take (Tryz.prog.cellsOf 3)) = some u1 := hg2 1 _ rfl
    rw [c2] at g10 g11
    simp only [List.drop_succ_cons, List.drop_zero, List.take_succ_cons, List.take_zero] at g10 g11
    obtain ⟨z9, e9, _, _⟩ := DataW.trod_int Tryz.underlying3 g10
    obtain ⟨z10, e10, _, _⟩ := DataW.trod_int Tryz.underlying3 g11
    injection e0 with e0
    injection e1 with e1
    injection e2 with e2
    injection e3 with e3
    injection e4 with e4
    injection e5 with e5
    injection e6 with e6
    injection e7 with e7
    injection e8 with e8
    injection e9 with e9
    injection e10 with e10
    subst e0 e1 e2 e3 e4 e5 e6 e7 e8 e9 e10
    exact ⟨_, nc_mk _ _ _ _ _ _ _ _ _ _ _⟩
end
end Go.Proofs.YteilglpdmfiinaaGreatDoor

namespace Go.Proofs.YteilglpdmfiinaaGreatDoor
open Go.ChangeShapes Go.WideShapes Go.ChangeAt Go.RowKit
set_option linter.unusedVariables false

set_option maxRecDepth 100000 in
set_option maxHeartbeats 2000000 in
theorem nationalcertBack_lifted (os : Os) (started : os.Started) (H : Type) (enc : TypeId × Value → H) :
    ReturnsInHanded {} Tryz.checked os 12 .any (fun w args => (Rows.nationalcertBackSpec.pre enc Tryz.prog Tryz.f12 [] false w args ∧ laidMetH Tryz.prog Rows.nationalcertBackRow.laid w) ∧ sizedMet enc Tryz.prog Tryz.f12 (OpenSpec.ofChange Rows.nationalcertBackSpec) false w args)
      (Rows.nationalcertBackSpec.post enc Tryz.prog Tryz.f12 false true false false) := by
  refine returnsInHanded_of_change_and (C := Tryz.checked) (X := fun w _ => laidMetH Tryz.prog Rows.nationalcertBackRow.laid w) (fun _ _ _ hh h => h.of_heap hh) own started (by kernel_rfl) Tryz.func12
    (ChangeSpec.witness_shaped (enc := enc) (C := Tryz.checked) (os := os) (X := fun w _ => laidMetH Tryz.prog Rows.nationalcertBackRow.laid w) false (World.laidAll Tryz.prog os Rows.nationalcertBackRow.laid) #[.slice none 0 0] 8 (World.laidAll_os _ _ _)
      (World.shaped_of_ZipB (by kernel_rfl) (by kernel_rfl)) (by kernel_rfl) (by kernel_rfl) (by kernel_rfl)
      (by rw [MakeChecks.laidMetH_plain _ _ _ (by kernel_rfl)]; exact laidMet_laidAll _ (by kernel_rfl) (by kernel_rfl))) ?_
  intro W base args ds gs before hval0 hW _ hsz hL _
  have hval : ∀ (j : Nat) t v, Tryz.f12.params[j]? = some t → args[j]? = some v → Value.okWide Tryz.prog W .any base t v := hval0
  have hW' := hW
  obtain ⟨p, q, hA0, hV, rfl, hfz, hnd⟩ := hW
  have hA : DataW.TrodAll enc Tryz.prog W 0 (fun _ => true) true Tryz.f12.params.toList args.toList ds p := hA0
  rw [Tryz.params12] at hA hval
  obtain ⟨v0, vs0, d0, ds0, p0, q0, hargs, rfl, rfl, h0, r0⟩ := trodAll_cons hA
  obtain ⟨rfl, rfl, rfl⟩ := trodAll_nil r0
  obtain rfl : args = #[v0] := by cases args; simp_all
  obtain ⟨rfl, rfl⟩ := trodVars_none hV
  have k0 := h0
  have lt0 : ∀ x ∈ p0, x.block < W.heap.size := by obtain ⟨m, hm⟩ := k0; exact DataW.trod_lt m _ _ _ hm
  obtain ⟨l0, hr0, wf0, hn0⟩ := open_slice Tryz.underlying36 Tryz.underlying3 (by kernel_rfl) (hval 0 36 v0 rfl rfl) h0
  clear hA0 hval0
  refine (nback_any W hr0 (fun x hx => wf_i64 (wf0 x hx)) ⟨(of_laid2 hL).1, (of_laid2 hL).2⟩).mono fun e W' ⟨he, bel⟩ => ?_
  subst he
  exact ⟨_, rfl, _, _, _, [], _, [], hW', trodAll_mk1 (shut_bool Tryz.underlying4 _), (trodAll_cons_mk (Below.trod laidOut (by kernel_rfl) (of_decide_eq_true (by kernel_rfl)) k0 bel lt0) trodAll_mk0), rfl, bel.frame _, fun h => by cases h⟩
theorem nationalcertBack_joined : joinedFacts Tryz.prog 12 Tryz.f12 Rows.nationalcertBackSpec Rows.nationalcertBackRow = true := by
  unfold joinedFacts
  rw [pf_enter, pf_final, pf_make, laidOut]
  kernel_rfl
theorem nationalcertBack_holds : Rows.NationalcertBackSaid :=
  OpenClaim.holds_of_wide 12 Tryz.f12 rfl rfl rfl rfl rfl rfl rfl ⟨rfl, rfl, rfl, rfl, rfl⟩ rfl rfl rfl rfl rfl (by kernel_rfl) Tryz.func12 nationalcertBack_joined
    (of_decide_eq_true (by kernel_rfl)) (by unfold Func.isWrapper; first | (rw [if_pos (by decide +kernel)]; kernel_rfl) | (rw [if_neg (by decide +kernel)]; exact ⟨rfl, rfl⟩))
    (fun os started H enc _ => nationalcertBack_lifted os started H enc)
theorem nationalcertBack_text : Rows.nationalcertBackRow.wfByText (OpenSpec.ofChange Rows.nationalcertBackSpec) = true := by kernel_rfl
theorem nationalcertBack_goes : false = Rows.nationalcertBackRow.goesBy Tryz.prog := by kernel_rfl
theorem nationalcertBack_named : Tryz.prog.funcNamed Rows.nationalcertBackRow.func = some 12 := by kernel_rfl
/-- THE STATEMENT. -/
theorem nationalcertBack_card : Rows.NationalcertBackCardSaid :=
  Claim7.holds_tied_plain_at .later [] [.data, .data] true (true, "679a98f096f9a496f11e4ffcd481768a7ace9278549415b8de45654a087b577a") false
    nationalcertBack_holds (fun _ h => by cases h) nationalcertBack_text (fun _ h => by cases h) nationalcertBack_row_tie rfl ⟨rfl, rfl⟩ pf_main rfl
    (fun f fn hf hfn => by
      obtain rfl : f = 12 := Option.some.inj (nationalcertBack_named.symm.trans hf) |>.symm
      obtain rfl : fn = Tryz.f12 := (Option.some.inj (Tryz.func12.symm.trans hfn)).symm
      exact ⟨pf_looks, fun j t ht => by
        rw [Tryz.params12] at ht
        have hm : t ∈ [36] := by simpa using Array.mem_of_getElem? ht
        have hall : ([36].all fun u => !Tryz.prog.wantsStandIn u) = true := by kernel_rfl
        exact (show Tryz.prog.wantsStandIn t = false by simpa using List.all_eq_true.1 hall t hm)⟩)
    nationalcertBack_goes

end Go.Proofs.YteilglpdmfiinaaGreatDoor
