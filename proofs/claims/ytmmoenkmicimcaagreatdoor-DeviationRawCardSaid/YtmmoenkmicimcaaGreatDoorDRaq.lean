/- Parts P4 Hd of the proof. -/
import Derived.Test.YtmmoenkmicimcaaGreatDoorDRam
import Derived.Test.YtmmoenkmicimcaaGreatDoorDRai
import Derived.Test.YtmmoenkmicimcaaGreatDoorDRak
import Derived.Test.YtmmoenkmicimcaaGreatDoorRows
import Derived.Test.YtmmoenkmicimcaaGreatDoorCards
import Derived.Test.YtmmoenkmicimcaaGreatDoorTie
import Derived.ProofKit
import Derived.OpenShut
import Derived.LaidMore
import Derived.Lay
import Derived.Lib.LaidTab
import Derived.SizedLaws
import Derived.SevenTiedAt
import Derived.Stop.Joined
namespace Go.Proofs.YtmmoenkmicimcaaGreatDoor
open Go.ChangeShapes Go.WideShapes Go.ChangeAt Go.RowKit
set_option linter.unusedVariables false
set_option maxRecDepth 100000
theorem laidOut : laidOutB Tryz.prog = true := by kernel_rfl
theorem own : ownKnob Tryz.prog.godebug = none := by kernel_rfl
theorem gD : Tryz.prog.globalNamed "traveldoc/digest.constants" = some 1 := by kernel_rfl
theorem gR : Tryz.prog.globalNamed "traveldoc/traveldocref04.constants" = some 0 := by kernel_rfl
theorem tD : (Tryz.prog.globals[1]?).map (·.type) = some 187 := by kernel_rfl
theorem tR : (Tryz.prog.globals[0]?).map (·.type) = some 187 := by kernel_rfl
theorem c1 : Tryz.prog.cellsOf 172 = 1 := by kernel_rfl
theorem c64 : Tryz.prog.cellsOf 187 = 64 := by kernel_rfl
theorem ktab_of_tab {W : World} {name : String} {g : Nat} (h : Lib.TabIs Tryz.prog W name .u32 kTab) (hg : Tryz.prog.globalNamed name = some g) : KTab W g := fun t ht => h.cell hg t ht

theorem of_laid2 {W : World} (h : laidMetH Tryz.prog Rows.deviationRawRow.laid W) : KTab W 1 ∧ KTab W 0 := by
  rw [MakeChecks.laidMetH_plain _ _ _ (by kernel_rfl)] at h
  refine ⟨?_, ktab_of_tab (Lib.tabIs_of_head gR tR Tryz.underlying187 Tryz.underlying172 c1 c64 h) gR⟩
  obtain ⟨ps, ⟨g1, t1, cs1, f1, p1, q1, hg1, ht1, hv1, hd1, ⟨g2, t2, cs2, f2, p2, q2, hg2, ht2, hv2, hd2, _, _⟩, _⟩, _⟩ := h
  obtain rfl := Option.some.inj (gD.symm.trans hg2)
  obtain rfl := Option.some.inj (tD.symm.trans ht2)
  refine ktab_of_tab ?_ gD
  unfold Lib.TabIs
  rw [hv2, ← Lib.cells_of_tab Tryz.underlying187 Tryz.underlying172 c1 c64 hd2]

/-- A slice of integers that came in. -/
theorem open_slice {H : Type} {enc : TypeId × Value → H} {W : World} {base : Nat} {t e : TypeId} {k : IntKind} {v : Value} {d : DataW H} {p : List MemPlace} (hu : Tryz.prog.underlying t = some (.slice e)) (he : Tryz.prog.underlying e = some (.int k)) (hc : Tryz.prog.cellsOf e = 1)
    (hv : Value.okWide Tryz.prog W .any base t v) (h : DataW.Trod enc Tryz.prog W 0 (fun _ => true) true t v d p) :
    ∃ zs : List Int, RdI W k v zs ∧ (∀ n ∈ zs, (Lit.int k n).wf = true) ∧ (zs = [] ∨ ∃ e s, d = .slice e s ∧ zs.length ≤ e.length + s.length) := by
  obtain ⟨a, len, cap, rfl⟩ := okWide_slice hu hv
  obtain ⟨fuel, hf⟩ := h
  rcases open_ints hu he hc hf with ⟨hcs, _⟩ | ⟨x, l, c, zs, hcs, _, hl, hm, hz, hx, hcell, hwz⟩
  · simp [Value.cells] at hcs
    obtain ⟨rfl, rfl, rfl⟩ := hcs
    exact ⟨[], Rd.nil_ _, by simp, .inl rfl⟩
  · simp [Value.cells] at hcs
    obtain ⟨rfl, rfl, rfl⟩ := hcs
    simp only [if_true] at hz
    refine ⟨zs.take len, ?_, fun n hn => hwz n (List.mem_of_mem_take hn), .inr ⟨_, _, (Prod.mk.inj hx).1, ?_⟩⟩
    · refine ⟨_, len, cap, rfl, by simp; omega, hl, hm, fun h0 => ?_⟩
      obtain ⟨b, o, sp⟩ := x
      have h1 := hcell 0 (by omega)
      cases sp with
      | some q =>
        exfalso
        simp only [Addr.add, if_true, World.cell?] at h1
        split at h1 <;> simp at h1
      | none =>
        refine ⟨b, o, rfl, fun j u hu => ?_⟩
        rw [List.getElem?_map, List.getElem?_take, Option.map_eq_some_iff] at hu
        obtain ⟨y, hy, rfl⟩ := hu
        split at hy
        · have hj : j < zs.length := (List.getElem?_eq_some_iff.1 hy).1
          have := hcell j hj
          rw [Addr.add_lit] at this
          rw [this]
          simp [List.getD_eq_getElem?_getD, hy]
        · cases hy
    · rw [List.length_take]
      simp only [lits, List.length_map, List.length_take, List.length_drop]
      omega
end Go.Proofs.YtmmoenkmicimcaaGreatDoor
namespace Go.Proofs.YtmmoenkmicimcaaGreatDoor
open Go.ChangeShapes Go.WideShapes Go.ChangeAt Go.RowKit
def sg (l : List Nat) : List Char := l.map Char.ofNat
def headNums : List Nat := [104, 97, 114, 110, 101, 115, 115, 32, 56, 56, 54, 57, 56, 102, 53, 55, 55, 48, 53, 49, 54, 56, 99, 49, 101, 52, 54, 53, 102, 53, 102, 99, 97, 57, 56, 50, 56, 48, 97, 101,
  101, 52, 56, 48, 55, 100, 99, 101, 57, 55, 101, 57, 52, 48, 49, 48, 55, 51, 57, 50, 97, 99, 97, 98, 100, 53, 48, 51, 98, 100, 50, 51, 32, 99, 117, 116, 32, 97, 116, 32,
  116, 114, 97, 118, 101, 108, 100, 111, 99, 47, 116, 114, 97, 118, 101, 108, 100, 111, 99, 108, 97, 119, 51, 51, 46, 68, 101, 118, 105, 97, 116, 105, 111, 110, 77, 97, 100, 101, 32, 116,
  114, 97, 118, 101, 108, 100, 111, 99, 47, 116, 114, 97, 118, 101, 108, 100, 111, 99, 108, 97, 119, 51, 51, 46, 68, 101, 118, 105, 97, 116, 105, 111, 110, 82, 97, 119, 32, 116, 114, 97,
  118, 101, 108, 100, 111, 99, 47, 116, 114, 97, 118, 101, 108, 100, 111, 99, 108, 97, 119, 51, 51, 46, 68, 101, 118, 105, 97, 116, 105, 111, 110, 79, 119, 110]
def headSigns : List Char := sg headNums
def headTail : List (List Char) := [sg [97, 116],
  sg [116, 114, 97, 118, 101, 108, 100, 111, 99, 47, 116, 114, 97, 118, 101, 108, 100, 111, 99, 108, 97, 119, 51, 51, 46, 68, 101, 118, 105, 97, 116, 105, 111, 110, 77, 97, 100, 101],
  sg [116, 114, 97, 118, 101, 108, 100, 111, 99, 47, 116, 114, 97, 118, 101, 108, 100, 111, 99, 108, 97, 119, 51, 51, 46, 68, 101, 118, 105, 97, 116, 105, 111, 110, 82, 97, 119],
  sg [116, 114, 97, 118, 101, 108, 100, 111, 99, 47, 116, 114, 97, 118, 101, 108, 100, 111, 99, 108, 97, 119, 51, 51, 46, 68, 101, 118, 105, 97, 116, 105, 111, 110, 79, 119, 110]]
def headWords : List (List Char) := sg [99, 117, 116] :: headTail
def sumSigns : List Char := sg [56, 56, 54, 57, 56, 102, 53, 55, 55, 48, 53, 49, 54, 56, 99, 49, 101, 52, 54, 53, 102, 53, 102, 99, 97, 57, 56, 50, 56, 48, 97, 101, 101, 52, 56, 48, 55, 100, 99, 101, 57, 55, 101, 57, 52, 48, 49, 48, 55, 51, 57, 50, 97, 99, 97, 98, 100, 53, 48, 51, 98, 100, 50, 51]
theorem head_of : Tryz.prog.initOrder = String.ofList headSigns := by kernel_rfl
theorem sum_of : "88698f57705168c1e465f5fca98280aee4807dce97e940107392acabd503bd23" = String.ofList sumSigns := by kernel_rfl
theorem head_signs : Tryz.prog.initOrder.toList = headSigns := by
  rw [head_of, String.toList_ofList]
set_option maxRecDepth 100000 in
theorem head_words : behindMainWord (wordsSigns headSigns) = headWords := by decide +kernel
theorem head_all : behindMainWord (wordsSigns Tryz.prog.initOrder.toList) = sg [99, 117, 116] :: headTail := by rw [head_signs, head_words]; rfl
set_option maxRecDepth 100000 in
theorem head_main : (match wordsSigns headSigns with
  | h :: s :: _ => if !isSumSigns s then none else if h == "harness".toList then some (true, s) else if h == "ownmain".toList then some (false, s) else none
  | _ => none) = some (true, sumSigns) := by decide +kernel
theorem pf_main : Tryz.prog.mainIs = some (true, ("88698f57705168c1e465f5fca98280aee4807dce97e940107392acabd503bd23" : String).toList) := by
  rw [sum_of, String.toList_ofList]
  unfold Program.mainIs
  rw [head_signs]
  exact head_main
theorem make_cut {P : Program} {r : List (List Char)} (h : behindMainWord (wordsSigns P.initOrder.toList) = sg [99, 117, 116] :: r) : P.make = some .cut := by
  unfold Program.make
  rw [h]
  rfl
theorem lifts_cut {P : Program} {r : List (List Char)} (h : behindMainWord (wordsSigns P.initOrder.toList) = sg [99, 117, 116] :: r) : P.headLifts = [] := by
  unfold Program.headLifts
  rw [h]
  rfl
theorem final_cut {P : Program} {r : List (List Char)} (h : behindMainWord (wordsSigns P.initOrder.toList) = sg [99, 117, 116] :: r) : P.liftsFinal = false := by
  unfold Program.liftsFinal
  rw [lifts_cut h, h]
  rfl
theorem enter_cut {P : Program} {r : List (List Char)} (h : behindMainWord (wordsSigns P.initOrder.toList) = sg [99, 117, 116] :: r) (h1 : P.laysLater = false) (h2 : P.bearsReflect = false) (h3 : P.doorFits [] = true) : P.mayEnter = true := by
  have e : stripLifts liftWords (sg [99, 117, 116] :: r) = ([], sg [99, 117, 116] :: r) := rfl
  unfold Program.mayEnter
  rw [h]
  simp only [e, h1, h2, h3]
  rfl
theorem pf_make : Tryz.prog.make = some .cut := make_cut head_all
theorem pf_final : Tryz.prog.liftsFinal = false := final_cut head_all
theorem pf_later : Tryz.prog.laysLater = false := by kernel_rfl
theorem pf_reflect : Tryz.prog.bearsReflect = false := by kernel_rfl
theorem pf_door : Tryz.prog.doorFits [] = true := by kernel_rfl
theorem pf_enter : Tryz.prog.mayEnter = true := enter_cut head_all pf_later pf_reflect pf_door
theorem pf_looks : false = Tryz.prog.looks [] := by kernel_rfl
end Go.Proofs.YtmmoenkmicimcaaGreatDoor
