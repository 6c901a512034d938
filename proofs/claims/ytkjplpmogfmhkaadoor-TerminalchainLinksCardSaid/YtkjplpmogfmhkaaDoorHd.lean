/- The head of the program's dump, word by word: the closed facts that go by it. -/
import Derived.Test.YtkjplpmogfmhkaaDoorP4
namespace Go.Proofs.YtkjplpmogfmhkaaDoor
open Go.ChangeShapes Go.WideShapes Go.ChangeAt Go.RowKit
def sg (l : List Nat) : List Char := l.map Char.ofNat
def headNums : List Nat := [104, 97, 114, 110, 101, 115, 115, 32, 50, 99, 49, 57, 51, 48, 100, 53, 98, 51, 97, 55, 57, 53, 52, 100, 50, 49, 100, 57, 49, 54, 101, 53, 53, 99, 51, 55, 49, 55, 55, 56,
  100, 57, 55, 48, 49, 50, 99, 52, 49, 51, 99, 55, 51, 53, 102, 56, 50, 50, 102, 101, 56, 55, 54, 52, 102, 101, 53, 50, 50, 56, 48, 50, 32, 99, 117, 116, 32, 97, 116, 32,
  116, 114, 97, 118, 101, 108, 100, 111, 99, 47, 116, 114, 97, 118, 101, 108, 100, 111, 99, 108, 97, 119, 50, 54, 46, 84, 101, 114, 109, 105, 110, 97, 108, 99, 104, 97, 105, 110, 76, 105,
  110, 107, 115]
def headSigns : List Char := sg headNums
def headTail : List (List Char) := [sg [97, 116],
  sg [116, 114, 97, 118, 101, 108, 100, 111, 99, 47, 116, 114, 97, 118, 101, 108, 100, 111, 99, 108, 97, 119, 50, 54, 46, 84, 101, 114, 109, 105, 110, 97, 108, 99, 104, 97, 105, 110, 76, 105, 110, 107, 115]]
def headWords : List (List Char) := sg [99, 117, 116] :: headTail
def sumSigns : List Char := sg [50, 99, 49, 57, 51, 48, 100, 53, 98, 51, 97, 55, 57, 53, 52, 100, 50, 49, 100, 57, 49, 54, 101, 53, 53, 99, 51, 55, 49, 55, 55, 56, 100, 57, 55, 48, 49, 50, 99, 52, 49, 51, 99, 55, 51, 53, 102, 56, 50, 50, 102, 101, 56, 55, 54, 52, 102, 101, 53, 50, 50, 56, 48, 50]
theorem head_of : Tryd.prog.initOrder = String.ofList headSigns := by kernel_rfl
theorem sum_of : "2c1930d5b3a7954d21d916e55c371778d97012c413c735f822fe8764fe522802" = String.ofList sumSigns := by kernel_rfl
theorem head_signs : Tryd.prog.initOrder.toList = headSigns := by
  rw [head_of, String.toList_ofList]
set_option maxRecDepth 100000 in
theorem head_words : behindMainWord (wordsSigns headSigns) = headWords := by decide +kernel
theorem head_all : behindMainWord (wordsSigns Tryd.prog.initOrder.toList) = sg [99, 117, 116] :: headTail := by rw [head_signs, head_words]; rfl
set_option maxRecDepth 100000 in
theorem head_main : (match wordsSigns headSigns with
  | h :: s :: _ => if !isSumSigns s then none else if h == "harness".toList then some (true, s) else if h == "ownmain".toList then some (false, s) else none
  | _ => none) = some (true, sumSigns) := by decide +kernel
theorem pf_main : Tryd.prog.mainIs = some (true, ("2c1930d5b3a7954d21d916e55c371778d97012c413c735f822fe8764fe522802" : String).toList) := by
  rw [sum_of, String.toList_ofList]
  unfold Program.mainIs
  rw [head_signs]
  exact head_main
theorem cut_signs : sg [99, 117, 116] = "cut".toList := by decide +kernel
theorem make_cut {P : Program} {r : List (List Char)} (h : behindMainWord (wordsSigns P.initOrder.toList) = sg [99, 117, 116] :: r) : P.make = some .cut := by
  unfold Program.make
  rw [h]
  rfl
theorem lifts_cut {P : Program} {r : List (List Char)} (h : behindMainWord (wordsSigns P.initOrder.toList) = sg [99, 117, 116] :: r) : P.headLifts = [] := by
  unfold Program.headLifts
  rw [h]
  rfl
theorem final_cut {P : Program} {r : List (List Char)} (h : behindMainWord (wordsSigns P.initOrder.toList) = sg [99, 117, 116] :: r) : P.liftsFinal = false := by
  unfold Program.liftsFinal
  rw [lifts_cut h, h]
  rfl
theorem enter_cut {P : Program} {r : List (List Char)} (h : behindMainWord (wordsSigns P.initOrder.toList) = sg [99, 117, 116] :: r) (h1 : P.laysLater = false) (h2 : P.bearsReflect = false) (h3 : P.doorFits [] = true) : P.mayEnter = true := by
  have e : stripLifts liftWords (sg [99, 117, 116] :: r) = ([], sg [99, 117, 116] :: r) := rfl
  unfold Program.mayEnter
  rw [h]
  simp only [e, h1, h2, h3]
  rfl
theorem pf_make : Tryd.prog.make = some .cut := make_cut head_all
theorem pf_final : Tryd.prog.liftsFinal = false := final_cut head_all
theorem pf_later : Tryd.prog.laysLater = false := by kernel_rfl
theorem pf_reflect : Tryd.prog.bearsReflect = false := by kernel_rfl
theorem pf_door : Tryd.prog.doorFits [] = true := by kernel_rfl
theorem pf_enter : Tryd.prog.mayEnter = true := enter_cut head_all pf_later pf_reflect pf_door
theorem pf_looks : false = Tryd.prog.looks [] := by kernel_rfl
end Go.Proofs.YtkjplpmogfmhkaaDoor
